/- A region whose order is drawn does what it does in the listed order. -/
import Derived.Test.YthekbbgpmiogdaaLY1
namespace Go.Lift
open Go Go.RowKit

def slotsOf (l : List Oper) (o : Oper) : List Nat :=
  (opds o.op).filterMap (fun x => match x with | .tmp t => some t | _ => none) ++ (match o.guard with
    | some (j, _) => match l[j]? with
      | some g => g.dst.toList
      | none => []
    | none => [])
def cntB (B : List Nat) (i : Nat) : Nat := (B.filter fun b => decide (b < i)).length
def strad (lo hi : List Nat) (n k : Nat) : Bool := (List.range n).any fun i => decide (lo.getD i 0 ≤ k) && decide (k < hi.getD i 0)
def chkSeq (l : List Oper) (B lo hi : List Nat) : Bool :=
  chkDraw l B lo hi &&
  ((List.range l.length).all fun i => match l[i]? with
    | none => true
    | some o => (slotsOf l o).all fun t => match wr l t with
      | none => true
      | some j => (predsAt l i).contains j || (j == i || (predsAt l j).contains i)) &&
  ((List.range l.length).all fun i => decide (lo.getD i 0 ≤ cntB B i) && decide (hi.getD i 0 ≤ B.length)) &&
  ((List.range B.length).all fun k => match B[k]? with
    | some b => cntB B b == k
    | none => false)

section
variable {P : Program} {TT : TTab} {fx : Fx}

/-- what an operation does where its slots hold what they hold in T -/
def LocAt (P : Program) (fx : Fx) (ops : List Oper) (o : Oper) (N : Nat) (T : List (Nat × IV)) (v : IV) (L L' : List (Option Blk)) : Prop :=
  ∀ T2, (∀ t ∈ slotsOf ops o, ∀ x, lk T t = some x → lk T2 t = some x) → ∀ T3, putT o.dst (some v) T2 = some T3 → IG P fx ops.toArray o (fun σ1 => σ1 = ⟨N, T3, L'⟩) ⟨N, T2, L⟩

/-- the walk in the listed order -/
def DW (P : Program) (fx : Fx) (ops : List Oper) (X B lo hi : List Nat) : Nat → List Oper → Nat → List (Nat × IV) → List (List (Option Blk)) → (St → Prop) → Prop
  | _, [], N, T, Ls, K => K ⟨N, T, Ls.headD []⟩
  | i, o :: r, N, T0, Ls, K => ∃ T v T', (∀ t, lk T t = lk T0 t) ∧ putT o.dst (some v) T = some T' ∧
    if B.contains i = true then ∃ L', LocAt P fx ops o N T v (Ls.headD []) L' ∧ (strad lo hi ops.length (Ls.length - 1) = false ∨ LEX X (Ls.headD []) L') ∧ DW P fx ops X B lo hi (i + 1) r N T' (L' :: Ls) K
    else (∀ L2, LEX X (Ls.getD (Ls.length - 1 - lo.getD i 0) []) L2 → (lo.getD i 0 = hi.getD i 0 → L2 = Ls.getD (Ls.length - 1 - lo.getD i 0) []) → LocAt P fx ops o N T v L2 L2) ∧ DW P fx ops X B lo hi (i + 1) r N T' Ls K

def tv (l : List Oper) (v : List IV) (T0 : List (Nat × IV)) (j t : Nat) : Option IV :=
  match wr l t with
  | none => lk T0 t
  | some i => if i < j then v[i]? else lk T0 t
def Lf (G : List (List (Option Blk))) (c : Nat) : List (Option Blk) := G.getD (G.length - 1 - c) []
def Raw (P : Program) (fx : Fx) (l : List Oper) (X B lo hi : List Nat) (N : Nat) (T0 : List (Nat × IV)) (v : List IV) (G : List (List (Option Blk))) (j : Nat) (o : Oper) : Prop :=
  ∃ T, (∀ t, lk T t = tv l v T0 j t) ∧ if B.contains j = true then LocAt P fx l o N T (v.getD j default) (Lf G (cntB B j)) (Lf G (cntB B j + 1)) ∧ (strad lo hi l.length (cntB B j) = false ∨ LEX X (Lf G (cntB B j)) (Lf G (cntB B j + 1)))
    else ∀ L2, LEX X (Lf G (lo.getD j 0)) L2 → (lo.getD j 0 = hi.getD j 0 → L2 = Lf G (lo.getD j 0)) → LocAt P fx l o N T (v.getD j default) L2 L2

theorem cntB_succ (B : List Nat) (i : Nat) (hB : ∀ k b, B[k]? = some b → cntB B b = k) : cntB B (i + 1) = if B.contains i = true then cntB B i + 1 else cntB B i := by
  have gen : ∀ (C : List Nat), (C.filter fun b => decide (b < i + 1)).length = (C.filter fun b => decide (b < i)).length + C.count i := by
    intro C
    induction C with
    | nil => rfl
    | cons b C ih =>
      simp only [List.filter_cons, List.count_cons, decide_eq_true_eq, beq_iff_eq]
      by_cases h1 : b < i
      · rw [if_pos (by omega), if_pos h1, if_neg (by omega)]; simp only [List.length_cons, ih]; omega
      · by_cases h2 : b = i
        · rw [if_pos (by omega), if_neg h1, if_pos h2]; simp only [List.length_cons, ih]; omega
        · rw [if_neg (by omega), if_neg h1, if_neg h2]; simp only [ih]; omega
  have hc : B.count i = if B.contains i = true then 1 else 0 := by
    by_cases hm : i ∈ B
    · rw [if_pos (by simpa using hm)]
      have hnd : B.Nodup := by
        rw [List.nodup_iff_pairwise_ne, List.pairwise_iff_getElem]
        intro a b ha hb hab e
        have h1 := hB a B[a] (List.getElem?_eq_getElem ha)
        have h2 := hB b B[b] (List.getElem?_eq_getElem hb)
        rw [e, h2] at h1; omega
      have h1 := List.nodup_iff_count.1 hnd i
      have h2 := List.count_pos_iff.2 hm
      omega
    · rw [if_neg (by simpa using hm)]
      exact List.count_eq_zero.2 hm
  unfold cntB
  rw [gen, hc]
  split <;> rfl

theorem Lf_app {M Ls : List (List (Option Blk))} {c : Nat} (h : c < Ls.length) : Lf (M ++ Ls) c = Ls.getD (Ls.length - 1 - c) [] := by
  unfold Lf
  simp only [List.getD_eq_getElem?_getD, List.length_append]
  rw [List.getElem?_append_right (by omega), show M.length + Ls.length - 1 - c - M.length = Ls.length - 1 - c by omega]

theorem DW.out {l : List Oper} {X B lo hi : List Nat} {N : Nat} {T0 : List (Nat × IV)} {K : St → Prop} (hB : ∀ k b, B[k]? = some b → cntB B b = k) (hlo : ∀ i, i < l.length → lo.getD i 0 ≤ cntB B i)
    (hwr : ∀ i o d, l[i]? = some o → o.dst = some d → wr l d = some i) :
    ∀ (r : List Oper) (i : Nat) (T : List (Nat × IV)) (Ls : List (List (Option Blk))) (vs : List IV), l.drop i = r → vs.length = i → i ≤ l.length → Ls.length = cntB B i + 1 → (∀ t, lk T t = tv l vs T0 i t) → DW P fx l X B lo hi i r N T Ls K →
    ∃ v G, v.length = l.length ∧ v.take i = vs ∧ (∃ M, G = M ++ Ls) ∧ G.length = cntB B l.length + 1 ∧ (∀ j o, i ≤ j → l[j]? = some o → Raw P fx l X B lo hi N T0 v G j o) ∧ ∃ Tf, (∀ t, lk Tf t = tv l v T0 l.length t) ∧ K ⟨N, Tf, G.headD []⟩
  | [], i, T, Ls, vs, hl, hv, hi', hc, hT, h => by
    have he : i = l.length := by
      have := congrArg List.length hl
      simp at this; omega
    subst he
    exact ⟨vs, Ls, hv, by rw [← hv, List.take_length], ⟨[], rfl⟩, hc, fun j o hj ho => by have := (List.getElem?_eq_some_iff.1 ho).1; omega, T, hT, h⟩
  | o :: r, i, Tq, Ls, vs, hl, hv, hi', hc, hTq, h => by
    have hlt : i < l.length := by
      have := congrArg List.length hl
      simp at this; omega
    have ho : l[i]? = some o := by
      have := congrArg (fun l => l[0]?) hl
      simpa using this
    have hr : l.drop (i + 1) = r := by
      have := congrArg (List.drop 1) hl
      simpa [Nat.add_comm] using this
    unfold DW at h
    obtain ⟨T, v, T', hT1, hp, h⟩ := h
    have hT : ∀ t, lk T t = tv l vs T0 i t := fun t => by rw [hT1 t]; exact hTq t
    have hT' : ∀ t, lk T' t = tv l (vs ++ [v]) T0 (i + 1) t := fun t => by
      have key : lk T' t = if o.dst = some t then some v else lk T t := by
        unfold putT at hp
        cases hd : o.dst with
        | none => rw [hd] at hp; cases hp; simp
        | some d =>
          rw [hd] at hp
          simp at hp; subst hp
          simp only [lk, Option.some.injEq]
          by_cases e : t = d
          · rw [if_pos e, if_pos e.symm]
          · rw [if_neg e, if_neg (fun h => e h.symm)]
      rw [key]
      by_cases hd : o.dst = some t
      · rw [if_pos hd]
        unfold tv
        rw [hwr i o t ho hd]
        simp only
        rw [if_pos (by omega), List.getElem?_append_right (by omega), hv]; simp
      · rw [if_neg hd, hT t]
        unfold tv
        cases hw : wr l t with
        | none => rfl
        | some j =>
          simp only
          obtain ⟨o', ho', hd'⟩ := wr_some hw
          have hji : j ≠ i := fun e => by subst e; rw [ho] at ho'; cases ho'; exact hd hd'
          by_cases hj : j < i
          · rw [if_pos hj, if_pos (by omega), List.getElem?_append_left (by omega)]
          · rw [if_neg hj, if_neg (by omega)]
    have hcs := cntB_succ B i hB
    have htv : ∀ {v' : List IV} (t : Nat), v'.take (i + 1) = vs ++ [v] → tv l v' T0 i t = tv l vs T0 i t := fun {v'} t hv' => by
      unfold tv
      cases hw : wr l t with
      | none => rfl
      | some j =>
        simp only
        split
        · rename_i hj
          have : (v'.take (i + 1))[j]? = (vs ++ [v])[j]? := by rw [hv']
          rw [List.getElem?_take, if_pos (by omega), List.getElem?_append_left (by omega)] at this
          exact this
        · rfl
    have hvi : ∀ {v' : List IV}, v'.take (i + 1) = vs ++ [v] → v'.getD i default = v := fun {v'} hv' => by
      have : (v'.take (i + 1))[i]? = (vs ++ [v])[i]? := by rw [hv']
      rw [List.getElem?_take, if_pos (by omega), List.getElem?_append_right (by omega), hv] at this
      simp at this
      simp [List.getD_eq_getElem?_getD, this]
    have htk : ∀ {v' : List IV}, v'.take (i + 1) = vs ++ [v] → v'.take i = vs := fun {v'} hv' => by
      have := congrArg (List.take i) hv'
      rw [List.take_take, Nat.min_eq_left (by omega), List.take_append_of_le_length (by omega), ← hv, List.take_length] at this
      rw [← hv]; exact this
    split at h
    · rename_i hb
      obtain ⟨L', h1, h2, h3⟩ := h
      rw [if_pos hb] at hcs
      obtain ⟨v', G, g1, g2, ⟨M, g3⟩, g4, g5, Tf, g6, g7⟩ := DW.out hB hlo hwr r (i + 1) T' (L' :: Ls) (vs ++ [v]) hr (by simp [hv]) hlt (by simp [hcs, hc]) hT' h3
      refine ⟨v', G, g1, htk g2, ⟨M ++ [L'], by simp [g3]⟩, g4, fun j o' hj ho' => ?_, Tf, g6, g7⟩
      by_cases e : j = i
      · subst e
        rw [ho] at ho'; cases ho'
        have e1 : Lf G (cntB B j) = Ls.headD [] := by
          rw [g3, Lf_app (by simp only [List.length_cons, hc]; omega)]
          simp only [List.length_cons, hc]
          rw [show cntB B j + 1 + 1 - 1 - cntB B j = 0 + 1 by omega]
          cases Ls with
          | nil => simp at hc
          | cons a b => rfl
        have e2 : Lf G (cntB B j + 1) = L' := by
          rw [g3, Lf_app (by simp [hc])]
          simp only [List.length_cons, hc]
          rw [show cntB B j + 1 + 1 - 1 - (cntB B j + 1) = 0 by omega]
          rfl
        refine ⟨T, fun t => by rw [hT t, htv t g2], ?_⟩
        rw [if_pos hb, hvi g2, e1, e2]
        refine ⟨h1, ?_⟩
        rw [hc, Nat.add_sub_cancel] at h2
        exact h2
      · exact g5 j o' (by omega) ho'
    · rename_i hb
      obtain ⟨h1, h3⟩ := h
      rw [if_neg hb] at hcs
      obtain ⟨v', G, g1, g2, ⟨M, g3⟩, g4, g5, Tf, g6, g7⟩ := DW.out hB hlo hwr r (i + 1) T' Ls (vs ++ [v]) hr (by simp [hv]) hlt (by rw [hcs, hc]) hT' h3
      refine ⟨v', G, g1, htk g2, ⟨M, g3⟩, g4, fun j o' hj ho' => ?_, Tf, g6, g7⟩
      by_cases e : j = i
      · subst e
        rw [ho] at ho'; cases ho'
        refine ⟨T, fun t => by rw [hT t, htv t g2], ?_⟩
        rw [if_neg hb, hvi g2, g3, Lf_app (by have := hlo j hlt; omega)]
        exact h1
      · exact g5 j o' (by omega) ho'

/-- A DRAWN REGION: it is enough to walk it in the listed order -/
theorem IW.drawnS {id : Nat} {l : List Oper} {Q : Exit → St → Prop} {σ0 : St} (hmix : P.follows .mixedOrders = true) (X B lo hi : List Nat) (hchk : chkSeq l B lo hi = true)
    (h : DW P fx l X B lo hi 0 l σ0.N σ0.T [σ0.L] (Q .normal)) : IW P fx (.region id l.toArray true) Q σ0 := by
  simp only [chkSeq, Bool.and_eq_true] at hchk
  obtain ⟨⟨⟨hchk, k1⟩, k2⟩, k3⟩ := hchk
  have hck := hchk
  simp only [chkDraw, Bool.and_eq_true, List.all_eq_true, List.mem_range] at hck
  obtain ⟨⟨⟨⟨ck1, ck2⟩, ck3⟩, ck4⟩, ck5⟩ := hck
  simp only [List.all_eq_true, List.mem_range] at k1 k2 k3
  have hB : ∀ k b, B[k]? = some b → cntB B b = k := fun k b hb => by
    have := k3 k (List.getElem?_eq_some_iff.1 hb).1
    simpa [hb] using this
  have hlo : ∀ i, i < l.length → lo.getD i 0 ≤ cntB B i := fun i hi => by
    have := k2 i hi
    simp only [Bool.and_eq_true, decide_eq_true_eq] at this
    exact this.1
  have hwr : ∀ i o d, l[i]? = some o → o.dst = some d → wr l d = some i := fun i o d ho hd => by
    have := ck2 i (List.getElem?_eq_some_iff.1 ho).1
    simpa [ho, hd] using this
  have hBi : ∀ k b, B[k]? = some b → lo.getD b 0 = k ∧ hi.getD b 0 = k ∧ b < l.length := fun k b hb => by
    have := ck5 k (List.getElem?_eq_some_iff.1 hb).1
    simpa [hb, and_assoc] using this
  have hall : cntB B l.length = B.length := by
    unfold cntB
    rw [List.filter_eq_self.2 fun b hb => by
      obtain ⟨k, hk, e⟩ := List.getElem_of_mem hb
      have := (hBi k b (by rw [List.getElem?_eq_getElem hk, e])).2.2
      simpa using this]
  obtain ⟨v, G, g1, _, ⟨M, g3⟩, g4, g5, Tf, g6, g7⟩ := DW.out (T0 := σ0.T) hB hlo hwr l 0 σ0.T [σ0.L] [] rfl rfl (Nat.zero_le _) (by simp [cntB]) (fun t => by
    unfold tv
    cases wr l t <;> simp) h
  rw [hall] at g4
  have hL0 : Lf G 0 = σ0.L := by
    rw [g3, Lf_app (by simp)]; rfl
  have hLn : Lf G B.length = G.headD [] := by
    unfold Lf
    rw [g4, show B.length + 1 - 1 - B.length = 0 by omega]
    cases G with
    | nil => simp at g4
    | cons a b => rfl
  have hle : ∀ i, i < l.length → ∀ d, lo.getD i 0 + d ≤ hi.getD i 0 → lo.getD i 0 + d ≤ B.length → LEX X (Lf G (lo.getD i 0)) (Lf G (lo.getD i 0 + d)) := by
    intro i hi' d
    induction d with
    | zero => intro _ _; exact LEX.refl _ _
    | succ d ih =>
      intro h1 h2
      refine LEX.trans (ih (by omega) (by omega)) ?_
      obtain ⟨b, hb⟩ : ∃ b, B[lo.getD i 0 + d]? = some b := ⟨B[lo.getD i 0 + d]'(by omega), List.getElem?_eq_getElem _⟩
      obtain ⟨o, ho⟩ : ∃ o, l[b]? = some o := ⟨l[b]'(hBi _ _ hb).2.2, List.getElem?_eq_getElem _⟩
      obtain ⟨T, _, hT⟩ := g5 b o (Nat.zero_le _) ho
      rw [if_pos (by simpa using List.mem_of_getElem? hb), hB _ _ hb] at hT
      rcases hT.2 with hs | hs
      · exfalso
        have : strad lo hi l.length (lo.getD i 0 + d) = true := by
          unfold strad
          rw [List.any_eq_true]
          exact ⟨i, by simpa using hi', by simp only [Bool.and_eq_true, decide_eq_true_eq]; omega⟩
        rw [this] at hs; cases hs
      · exact hs
  intro cx a w QQ hs hn
  refine wp_region_any hmix ?_
  have hrep : ∀ i, (Array.replicate l.toArray.size false).getD i false = false := fun i => by
    simp [Array.getElem?_replicate]; split <;> rfl
  refine wpAny_of (v := v) (B := B) (lo := lo) (hi := hi) (Ls := Lf G) (σ0 := σ0) hchk ?_ g1 (QQ := QQ) (fun σ1 cx1 a1 w1 hN hL hk hs1 => ?_) _ _ 0 σ0 cx a _ (Nat.le_trans List.countP_le_length (by simp)) ?_ ⟨hs.m.grow' (Fr.drew w []), hs.s.mono (fun _ _ h => h) rfl (Cx.le_refl cx) (fun _ _ => rfl)⟩
  · have mk : ∀ (r : List Oper) (i : Nat), l.drop i = r → AllOps (fun i o => ∀ c T T', lo.getD i 0 ≤ c → c ≤ hi.getD i 0 → (∀ t x, lookv l v σ0.T i t = some x → lk T t = some x) → putT o.dst v[i]? T = some T' →
      IG P fx l.toArray o (fun σ1 => σ1 = ⟨σ0.N, T', Lf G (if B.contains i = true then c + 1 else c)⟩) ⟨σ0.N, T, Lf G c⟩) i r := by
      intro r
      induction r with
      | nil => intro i _; trivial
      | cons o r ih =>
        intro i hl
        have ho : l[i]? = some o := by
          have := congrArg (fun l => l[0]?) hl
          simpa using this
        have hr : l.drop (i + 1) = r := by
          have := congrArg (List.drop 1) hl
          simpa [Nat.add_comm] using this
        have hlt := (List.getElem?_eq_some_iff.1 ho).1
        refine ⟨fun c T T' h1 h2 h3 h4 => ?_, ih (i + 1) hr⟩
        obtain ⟨Ti, hTi, hraw⟩ := g5 i o (Nat.zero_le _) ho
        have hvi : v[i]? = some (v.getD i default) := by
          simp [List.getD_eq_getElem?_getD, List.getElem?_eq_getElem (show i < v.length by omega)]
        have hag : ∀ t ∈ slotsOf l o, ∀ x, lk Ti t = some x → lk T t = some x := fun t ht x hx => by
          refine h3 t x ?_
          rw [hTi t] at hx
          have := k1 i hlt
          rw [ho] at this
          have := (List.all_eq_true.1 this) t ht
          unfold tv at hx
          unfold lookv
          cases hw : wr l t with
          | none => rw [hw] at hx; exact hx
          | some j =>
            rw [hw] at this hx
            simp only [Bool.or_eq_true] at this hx ⊢
            have hji : (predsAt l i).contains j = true → j < i := fun h => by simpa using ck1 i hlt j (by simpa using h)
            by_cases c1 : (predsAt l i).contains j = true
            · rw [if_pos c1]
              rw [if_pos (hji c1)] at hx; exact hx
            · rw [if_neg c1]
              have hge : ¬ j < i := fun hj => by
                rcases this with h | h | h
                · exact c1 h
                · have : j = i := by simpa using h
                  omega
                · obtain ⟨oj, hoj, _⟩ := wr_some hw
                  have := ck1 j (List.getElem?_eq_some_iff.1 hoj).1 i (by simpa using h)
                  simp at this; omega
              rw [if_neg hge] at hx
              rw [if_pos (by rcases this with h | h; exact absurd h c1; exact h)]
              exact hx
        rw [hvi] at h4
        by_cases hb : B.contains i = true
        · rw [if_pos hb] at hraw ⊢
          obtain ⟨k, hk, e⟩ := List.getElem_of_mem (show i ∈ B by simpa using hb)
          have hbk : B[k]? = some i := by rw [List.getElem?_eq_getElem hk, e]
          obtain ⟨e1, e2, _⟩ := hBi k i hbk
          have hc : c = k := by omega
          have := hB k i hbk
          subst hc
          rw [this] at hraw
          exact hraw.1 T hag T' h4
        · rw [if_neg hb] at hraw ⊢
          have hcB : c ≤ B.length := by
            have := k2 i hlt
            simp only [Bool.and_eq_true, decide_eq_true_eq] at this
            omega
          have := hle i hlt (c - lo.getD i 0) (by omega) (by omega)
          rw [show lo.getD i 0 + (c - lo.getD i 0) = c by omega] at this
          exact hraw _ this (fun e => by rw [show c = lo.getD i 0 by omega]) T hag T' h4
    exact mk l 0 rfl
  · refine hn .normal ⟨σ0.N, Tf, G.headD []⟩ cx1 a1 w1 g7 ⟨hs1.m.sameL (by rw [hL, hLn]), ?_⟩
    refine hs1.s.mono (fun t x hx => hk t x ?_) hN.symm (Cx.le_refl _) (fun _ _ => rfl)
    rw [g6 t] at hx
    unfold tv at hx
    unfold finv
    cases hw : wr l t with
    | none => rw [hw] at hx; exact hx
    | some j =>
      rw [hw] at hx
      obtain ⟨oj, hoj, _⟩ := wr_some hw
      simp only at hx
      rw [if_pos (List.getElem?_eq_some_iff.1 hoj).1] at hx
      exact hx
  · refine ⟨by simp, rfl, hL0.symm, fun i d x _ hi _ => ?_, fun t _ => rfl, fun i hi => ?_, fun k b hb => ?_, Nat.zero_le _⟩
    · rw [hrep] at hi; cases hi
    · rw [hrep] at hi; cases hi
    · rw [hrep]; simp
theorem WK.drawnS {id : Nat} {l : List Oper} {N : St → Prop} {Q : Exit → St → Prop} {σ : St} (hmix : P.follows .mixedOrders = true) (X B lo hi : List Nat) (hchk : chkSeq l B lo hi = true)
    (h : DW P fx l X B lo hi 0 l σ.N σ.T [σ.L] N) : WK P fx (.region id l.toArray true) N Q σ := IW.drawnS hmix X B lo hi hchk h
end
end Go.Lift
