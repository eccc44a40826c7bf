/- Regions whose order is drawn. -/
import Derived.Test.YthekbbgpmiogdaaLZ2
import Derived.Orders
namespace Go.Lift
open Go Go.RowKit

def preds (o : Oper) : List Nat := (o.after.toList.filter fun e => Region.binds .any e).map (·.on)
def wr (l : List Oper) (t : Nat) : Option Nat := l.findIdx? fun o => o.dst == some t
def predsAt (l : List Oper) (i : Nat) : List Nat := match l[i]? with
  | some o => preds o
  | none => []
/-- what operation j finds in slot t -/
def lookv (l : List Oper) (v : List IV) (T0 : List (Nat × IV)) (j t : Nat) : Option IV :=
  match wr l t with
  | none => lk T0 t
  | some i => if (predsAt l j).contains i = true then v[i]? else if (i == j || (predsAt l i).contains j) = true then lk T0 t else none
def finv (l : List Oper) (v : List IV) (T0 : List (Nat × IV)) (t : Nat) : Option IV :=
  match wr l t with
  | none => lk T0 t
  | some i => v[i]?
def AllOps (f : Nat → Oper → Prop) : Nat → List Oper → Prop
  | _, [] => True
  | i, o :: l => f i o ∧ AllOps f (i + 1) l
theorem AllOps.get {f : Nat → Oper → Prop} : ∀ {l : List Oper} {i j : Nat} {o : Oper}, AllOps f i l → l[j]? = some o → f (i + j) o
  | [], _, _, _, _, h => by simp at h
  | o :: l, i, 0, o', h, h' => by simp at h'; subst h'; exact h.1
  | o :: l, i, j + 1, o', h, h' => by have := AllOps.get (i := i + 1) h.2 (j := j) (by simpa using h'); rwa [show i + 1 + j = i + (j + 1) by omega] at this
def AllT (g : Nat → Option IV) : List (Nat × IV) → Prop
  | [] => True
  | (t, x) :: r => g t = some x ∧ AllT g r
theorem AllT.lk {g : Nat → Option IV} : ∀ {T : List (Nat × IV)} {t : Nat} {x : IV}, AllT g T → Go.Lift.lk T t = some x → g t = some x
  | [], _, _, _, h => by simp [Go.Lift.lk] at h
  | (t', x') :: r, t, x, h, h' => by
    unfold Go.Lift.lk at h'
    split at h'
    · rename_i e; cases h'; subst e; exact h.1
    · exact AllT.lk h.2 h'

/-- edges go back, each slot has one writer, the operations that turn blocks stand in one row -/
def chkDraw (l : List Oper) (B lo hi : List Nat) : Bool :=
  ((List.range l.length).all fun i => (predsAt l i).all fun j => decide (j < i)) &&
  ((List.range l.length).all fun i => match (l[i]?).bind (·.dst) with
    | some d => wr l d == some i
    | none => true) &&
  ((List.range l.length).all fun i => lo.getD i 0 == 0 || (predsAt l i).any fun j => decide (lo.getD i 0 ≤ lo.getD j 0) || (List.range B.length).any fun k => B[k]? == some j && decide (lo.getD i 0 ≤ k + 1)) &&
  ((List.range l.length).all fun i => decide (B.length ≤ hi.getD i 0) || B[hi.getD i 0]? == some i || (List.range l.length).any fun j => (predsAt l j).contains i && decide (hi.getD j 0 ≤ hi.getD i 0)) &&
  ((List.range B.length).all fun k => match B[k]? with
    | some b => lo.getD b 0 == k && hi.getD b 0 == k && decide (b < l.length)
    | none => false)

section
variable {P : Program} {TT : TTab} {fx : Fx}

def IG (P : Program) (fx : Fx) (ops : Array Oper) (o : Oper) (K : St → Prop) (σ : St) : Prop :=
  ∀ cx a w (K' : Act → World → Prop) (QQ : Exit → Act → World → Prop), Sim P fx cx σ a w → (∀ σ1 cx' a' w', K σ1 → Sim P fx cx' σ1 a' w' → K' a' w') →
    (if Region.wanted o (yielded ops a.tmps) = true then o.wp P a w K' QQ else K' (a.put o.dst undef) w)
theorem IG.plain {ops : Array Oper} {o : Oper} {K : St → Prop} {σ : St} (hg : o.guard = none) (h : IP P fx o K σ) : IG P fx ops o K σ := by
  intro cx a w K' QQ hs hk
  rw [if_pos (by simp [Region.wanted, hg])]
  exact h cx a w K' QQ hs hk
theorem skip_sound {o : Oper} {K : St → Prop} {σ : St} (h : skipOp o σ K) {cx : Cx} {a : Act} {w : World} {K' : Act → World → Prop} (hs : Sim P fx cx σ a w) (hk : ∀ σ1 cx' a' w', K σ1 → Sim P fx cx' σ1 a' w' → K' a' w') : K' (a.put o.dst undef) w := by
  unfold skipOp fin at h
  split at h
  · rename_i d hd
    rw [hd]
    exact hk _ cx _ w h.2 ⟨hs.m.sameL rfl, hs.s.put d h.1 (.v (.tuple #[])) undef (by simp [VX]; rfl)⟩
  · rename_i hd
    rw [hd]
    exact hk _ cx a w h hs
theorem IG.guard {ops : Array Oper} {o : Oper} {K : St → Prop} {σ : St} {j : Nat} {want b : Bool} (hg : o.guard = some (j, want)) (hb : gval ops σ j = some (.v (.bool b)))
    (h1 : b = want → IP P fx o K σ) (h2 : ¬ b = want → skipOp o σ K) : IG P fx ops o K σ := by
  intro cx a w K' QQ hs hk
  have hy := yielded_bool hs.s hb
  by_cases hw : b = want
  · rw [if_pos (by simp [Region.wanted, hg, hy, hw])]
    exact h1 hw cx a w K' QQ hs hk
  · rw [if_neg (by simp [Region.wanted, hg, hy, hw])]
    exact skip_sound (h2 hw) hs hk
theorem IG.undef {ops : Array Oper} {o : Oper} {K : St → Prop} {σ : St} {j : Nat} {want : Bool} (hg : o.guard = some (j, want)) (hb : gval ops σ j = some (.v (.tuple #[])))
    (h2 : skipOp o σ K) : IG P fx ops o K σ := by
  intro cx a w K' QQ hs hk
  have hy := yielded_undef hs.s hb
  rw [if_neg (by simp [Region.wanted, hg, hy])]
  exact skip_sound h2 hs hk

def putT (d : Option Nat) (x : Option IV) (T : List (Nat × IV)) : Option (List (Nat × IV)) :=
  match d with
  | none => some T
  | some d => x.map fun x => (d, x) :: T

structure DInv (l : List Oper) (v : List IV) (B : List Nat) (Ls : Nat → List (Option Blk)) (σ0 : St) (listed : Array Bool) (c : Nat) (σ : St) : Prop where
  sz : listed.size = l.length
  N : σ.N = σ0.N
  L : σ.L = Ls c
  T1 : ∀ i d x, wr l d = some i → listed.getD i false = true → v[i]? = some x → lk σ.T d = some x
  T0 : ∀ t, (∀ i, wr l t = some i → listed.getD i false = false) → lk σ.T t = lk σ0.T t
  cl : ∀ i, listed.getD i false = true → ∀ j ∈ predsAt l i, listed.getD j false = true
  cB : ∀ k b, B[k]? = some b → (listed.getD b false = true ↔ k < c)
  cle : c ≤ B.length

theorem wr_some {l : List Oper} {t i : Nat} (h : wr l t = some i) : ∃ o, l[i]? = some o ∧ o.dst = some t := by
  unfold wr at h
  rw [List.findIdx?_eq_some_iff_getElem] at h
  obtain ⟨h1, h2, _⟩ := h
  exact ⟨l[i], List.getElem?_eq_getElem h1, by simpa using h2⟩

theorem countP_lt {p q : Nat → Bool} : ∀ {xs : List Nat} {i : Nat}, (∀ j, q j = true → p j = true) → i ∈ xs → p i = true → q i = false → xs.countP q < xs.countP p
  | [], i, _, hi, _, _ => by simp at hi
  | x :: xs, i, h, hi, hp, hq => by
    have hle : xs.countP q ≤ xs.countP p := List.countP_mono_left fun j _ hj => h j hj
    rw [List.countP_cons, List.countP_cons]
    rcases List.mem_cons.1 hi with rfl | hi
    · rw [if_neg (by rw [hq]; simp), if_pos hp]; omega
    · have := countP_lt h hi hp hq
      have : (if q x = true then 1 else 0) ≤ (if p x = true then 1 else 0) := by
        by_cases hx : q x = true
        · rw [if_pos hx, if_pos (h x hx)]; exact Nat.le_refl _
        · rw [if_neg hx]; exact Nat.zero_le _
      omega
theorem wpAny_of {l : List Oper} {v : List IV} {B lo hi : List Nat} {Ls : Nat → List (Option Blk)} {σ0 : St} (hchk : chkDraw l B lo hi = true)
    (H : AllOps (fun i o => ∀ c T T', lo.getD i 0 ≤ c → c ≤ hi.getD i 0 → (∀ t x, lookv l v σ0.T i t = some x → lk T t = some x) → putT o.dst v[i]? T = some T' →
      IG P fx l.toArray o (fun σ1 => σ1 = ⟨σ0.N, T', Ls (if B.contains i = true then c + 1 else c)⟩) ⟨σ0.N, T, Ls c⟩) 0 l)
    (hv : v.length = l.length) {QQ : Exit → Act → World → Prop}
    (hK : ∀ σ1 cx a w, σ1.N = σ0.N → σ1.L = Ls B.length → (∀ t x, finv l v σ0.T t = some x → lk σ1.T t = some x) → Sim P fx cx σ1 a w → QQ .normal a w) :
    ∀ (fuel : Nat) (listed : Array Bool) (c : Nat) (σ : St) (cx : Cx) (a : Act) (w : World), (List.range l.length).countP (fun i => !listed.getD i false) ≤ fuel → DInv l v B Ls σ0 listed c σ → Sim P fx cx σ a w → wpAny P .any l.toArray QQ fuel listed a w := by
  simp only [chkDraw, Bool.and_eq_true, List.all_eq_true, List.mem_range] at hchk
  obtain ⟨⟨⟨⟨ck1, ck2⟩, ck3⟩, ck4⟩, ck5⟩ := hchk
  have hpred : ∀ i j, j ∈ predsAt l i → j < i := fun i j hj => by
    by_cases hi : i < l.length
    · simpa using ck1 i hi j hj
    · unfold predsAt at hj; rw [List.getElem?_eq_none (by omega)] at hj; simp at hj
  have hwr : ∀ i o d, l[i]? = some o → o.dst = some d → wr l d = some i := fun i o d ho hd => by
    have := ck2 i (List.getElem?_eq_some_iff.1 ho).1
    simpa [ho, hd] using this
  have hB : ∀ k b, B[k]? = some b → lo.getD b 0 = k ∧ hi.getD b 0 = k ∧ b < l.length := fun k b hb => by
    have := ck5 k (List.getElem?_eq_some_iff.1 hb).1
    simpa [hb, and_assoc] using this
  -- bounds of c
  have hlo : ∀ i, i < l.length → ∀ listed c σ, DInv l v B Ls σ0 listed c σ → (∀ j ∈ predsAt l i, listed.getD j false = true) → lo.getD i 0 ≤ c := by
    intro i
    induction i using Nat.strongRecOn with
    | _ i ih =>
      intro hi listed c σ hinv hp
      have := ck3 i hi
      rw [Bool.or_eq_true] at this
      rcases this with h | h
      · have : lo.getD i 0 = 0 := by simpa using h
        omega
      · rw [List.any_eq_true] at h
        obtain ⟨j, hj, h⟩ := h
        have hjl := hp j hj
        have hji := hpred i j hj
        rw [Bool.or_eq_true] at h
        rcases h with h | h
        · have h : lo.getD i 0 ≤ lo.getD j 0 := by simpa using h
          exact Nat.le_trans h (ih j hji (by omega) listed c σ hinv (hinv.cl j hjl))
        · rw [List.any_eq_true] at h
          obtain ⟨k, _, h⟩ := h
          simp only [Bool.and_eq_true, beq_iff_eq, decide_eq_true_eq] at h
          have := (hinv.cB k j h.1).1 hjl
          omega
  have hhi : ∀ m i, l.length - i ≤ m → i < l.length → ∀ listed c σ, DInv l v B Ls σ0 listed c σ → listed.getD i false = false → c ≤ hi.getD i 0 := by
    intro m
    induction m with
    | zero => intro i h1 h2; omega
    | succ m ih =>
      intro i h1 h2 listed c σ hinv hn
      have := ck4 i h2
      rw [Bool.or_eq_true, Bool.or_eq_true] at this
      rcases this with (h | h) | h
      · have h : B.length ≤ hi.getD i 0 := by simpa using h
        exact Nat.le_trans hinv.cle h
      · have h : B[hi.getD i 0]? = some i := by simpa using h
        have := hinv.cB _ i h
        rcases Nat.lt_or_ge (hi.getD i 0) c with h' | h'
        · rw [this.2 h'] at hn; cases hn
        · exact h'
      · rw [List.any_eq_true] at h
        obtain ⟨j, hj, h⟩ := h
        simp only [Bool.and_eq_true, decide_eq_true_eq, List.contains_iff_mem] at h
        have hij := hpred j i h.1
        have hjn : listed.getD j false = false := by
          cases hl : listed.getD j false with
          | false => rfl
          | true => rw [hinv.cl j hl i h.1] at hn; cases hn
        exact Nat.le_trans (ih j (by omega) (by simpa using hj) listed c σ hinv hjn) h.2
  have hgd : ∀ (listed : Array Bool) (i : Nat), listed.size = l.length → i < l.length → listed.getD i true = listed.getD i false := fun listed i hsz hi => by
    simp [Array.getD_eq_getD_getElem?, show i < listed.size by omega]
  have hready : ∀ i listed, listed.size = l.length → i ∈ Region.ready .any l.toArray listed → i < l.length ∧ listed.getD i false = false ∧ ∃ o, l[i]? = some o ∧ ∀ j ∈ predsAt l i, listed.getD j false = true := fun i listed hsz hi => by
    obtain ⟨h1, o, ho, h2⟩ := mem_ready.1 hi
    have ho : l[i]? = some o := by simpa using ho
    have hlt := (List.getElem?_eq_some_iff.1 ho).1
    refine ⟨hlt, by rw [← hgd listed i hsz hlt]; exact h1, o, ho, fun j hj => ?_⟩
    unfold predsAt at hj
    rw [ho] at hj
    simp only [preds, List.mem_map, List.mem_filter] at hj
    obtain ⟨e, ⟨he, hb⟩, rfl⟩ := hj
    exact h2 e (by simpa using he) hb
  -- nothing is ready: all is done
  have hdone : ∀ listed c σ, DInv l v B Ls σ0 listed c σ → Region.ready .any l.toArray listed = [] → ∀ i, i < l.length → listed.getD i false = true := by
    intro listed c σ hinv hr i
    induction i using Nat.strongRecOn with
    | _ i ih =>
      intro hi
      cases hl : listed.getD i false with
      | true => rfl
      | false =>
        exfalso
        have : i ∈ Region.ready .any l.toArray listed := by
          rw [mem_ready]
          refine ⟨by rw [hgd listed i hinv.sz hi]; exact hl, l[i], by simp [hi], fun e he hb => ?_⟩
          have hj : e.on ∈ predsAt l i := by
            unfold predsAt
            rw [List.getElem?_eq_getElem hi]
            exact List.mem_map.2 ⟨e, List.mem_filter.2 ⟨by simpa using he, hb⟩, rfl⟩
          have := hpred i _ hj
          exact ih e.on this (by omega)
        rw [hr] at this; cases this
  have hend : ∀ listed c σ cx a w, DInv l v B Ls σ0 listed c σ → Sim P fx cx σ a w → Region.ready .any l.toArray listed = [] → QQ .normal a w := by
    intro listed c σ cx a w hinv hs hr
    have hall := hdone listed c σ hinv hr
    have hc : c = B.length := by
      rcases Nat.lt_or_ge c B.length with h | h
      · have hb : B[c]? = some B[c] := List.getElem?_eq_getElem h
        have := (hinv.cB c _ hb).1 (hall _ (hB c _ hb).2.2)
        omega
      · exact Nat.le_antisymm hinv.cle h
    refine hK σ cx a w hinv.N (by rw [hinv.L, hc]) (fun t x hx => ?_) hs
    unfold finv at hx
    split at hx
    · rename_i hw
      rw [hinv.T0 t (fun i hi => by rw [hw] at hi; cases hi)]; exact hx
    · rename_i i hw
      obtain ⟨o, ho, _⟩ := wr_some hw
      exact hinv.T1 i t x hw (hall i (List.getElem?_eq_some_iff.1 ho).1) hx
  intro fuel
  induction fuel with
  | zero =>
    intro listed c σ cx a w hf hinv hs
    have hr : Region.ready .any l.toArray listed = [] := by
      cases hr : Region.ready .any l.toArray listed with
      | nil => rfl
      | cons i r =>
        exfalso
        obtain ⟨h1, h2, _⟩ := hready i listed hinv.sz (by rw [hr]; simp)
        have : 0 < (List.range l.length).countP (fun i => !listed.getD i false) := List.countP_pos_iff.2 ⟨i, by simpa using h1, by simp at h2; simp [h2]⟩
        omega
    exact ⟨hr, hend listed c σ cx a w hinv hs hr⟩
  | succ fuel ih =>
    intro listed c σ cx a w hf hinv hs
    refine ⟨hend listed c σ cx a w hinv hs, fun i hi => ?_⟩
    obtain ⟨h1, h2, o, ho, h3⟩ := hready i listed hinv.sz hi
    have hc1 := hlo i h1 listed c σ hinv h3
    have hc2 := hhi (l.length - i) i (Nat.le_refl _) h1 listed c σ hinv h2
    obtain ⟨x, hx⟩ : ∃ x, v[i]? = some x := ⟨v[i]'(by omega), List.getElem?_eq_getElem _⟩
    obtain ⟨T', hT'⟩ : ∃ T', putT o.dst v[i]? σ.T = some T' := by
      unfold putT; rw [hx]; cases o.dst <;> simp
    have hstep := H.get ho c σ.T T' (by simpa using hc1) (by simpa using hc2) (fun t y hy => by
      simp only [Nat.zero_add] at hy
      unfold lookv at hy
      split at hy
      · rename_i hw
        rw [hinv.T0 t (fun j hj => by rw [hw] at hj; cases hj)]; exact hy
      · rename_i j hw
        split at hy
        · rename_i hj
          exact hinv.T1 j t y hw (h3 j (by simpa using hj)) hy
        · split at hy
          · rename_i hj
            rw [hinv.T0 t (fun j' hj' => ?_)]
            · exact hy
            · rw [hw] at hj'; cases hj'
              simp only [Bool.or_eq_true, beq_iff_eq] at hj
              rcases hj with rfl | hj
              · exact h2
              · cases hl : listed.getD j false with
                | false => rfl
                | true => rw [hinv.cl j hl i (by simpa using hj)] at h2; cases h2
          · cases hy) (by simpa using hT')
    simp only [Nat.zero_add] at hstep
    have hσ : (⟨σ0.N, σ.T, Ls c⟩ : St) = σ := by rw [← hinv.N, ← hinv.L]
    rw [hσ] at hstep
    unfold wpOp
    rw [show l.toArray[i]? = some o by simpa using ho]
    simp only
    have hset : (listed.setIfInBounds i true).getD i false = true := by
      simp [Array.getElem?_setIfInBounds, hinv.sz, h1]
    have := hstep cx a w (wpAny P .any l.toArray QQ fuel (listed.setIfInBounds i true)) QQ hs (fun σ1 cx1 a1 w1 e hs1 => by
      subst e
      refine ih (listed.setIfInBounds i true) (if B.contains i = true then c + 1 else c) _ cx1 a1 w1 ?_ ?_ hs1
      · have : (List.range l.length).countP (fun j => !(listed.setIfInBounds i true).getD j false) < (List.range l.length).countP (fun j => !listed.getD j false) := by
          refine countP_lt (i := i) (fun j hj => ?_) (by simpa using h1) (by rw [h2]; rfl) (by simp [hset])
          cases hl : listed.getD j false with
          | false => rfl
          | true => rw [getD_set_true hl] at hj; cases hj
        omega
      · have hdi : ∀ d, o.dst = some d → wr l d = some i := fun d hd => hwr i o d ho hd
        have hput : ∀ t, o.dst ≠ some t → lk T' t = lk σ.T t := fun t ht => by
          unfold putT at hT'
          cases hd : o.dst with
          | none => rw [hd] at hT'; cases hT'; rfl
          | some d =>
            rw [hd, hx] at hT'
            simp at hT'
            subst hT'
            simp only [lk]
            rw [if_neg (fun e => ht (by rw [hd, e]))]
        refine ⟨by simpa using hinv.sz, rfl, rfl, fun j d y hw hj hy => ?_, fun t ht => ?_, fun j hj j' hj' => ?_, fun k b hb => ?_, ?_⟩
        · by_cases e : j = i
          · subst e
            obtain ⟨o', ho', hd'⟩ := wr_some hw
            rw [ho] at ho'; cases ho'
            unfold putT at hT'
            rw [hd', hy] at hT'
            simp at hT'
            subst hT'
            simp [lk]
          · rw [getD_set_ne false (Ne.symm e)] at hj
            show lk T' d = some y
            rw [hput d (fun hd => e (by have := hdi d hd; rw [hw] at this; cases this; rfl))]
            exact hinv.T1 j d y hw hj hy
        · show lk T' t = _
          rw [hput t (fun hd => by have := ht i (hdi t hd); rw [hset] at this; cases this)]
          refine hinv.T0 t fun j hj => ?_
          have := ht j hj
          cases hl : listed.getD j false with
          | false => rfl
          | true => rw [getD_set_true hl] at this; cases this
        · by_cases e : j = i
          · subst e; exact getD_set_true (h3 j' hj')
          · rw [getD_set_ne false (Ne.symm e)] at hj
            exact getD_set_true (hinv.cl j hj j' hj')
        · by_cases e : b = i
          · subst e
            obtain ⟨e1, e2, _⟩ := hB k b hb
            have hmem : B.contains b = true := by simpa using List.mem_of_getElem? hb
            rw [if_pos hmem, hset]
            simp; omega
          · rw [getD_set_ne false (Ne.symm e), hinv.cB k b hb]
            split
            · rename_i hm
              have hm : i ∈ B := by simpa using hm
              obtain ⟨k', hk', he⟩ := List.getElem_of_mem hm
              have hb' : B[k']? = some i := by rw [List.getElem?_eq_getElem hk', he]
              obtain ⟨e1, e2, _⟩ := hB k' i hb'
              have : k ≠ k' := fun ek => e (by subst ek; rw [hb] at hb'; cases hb'; rfl)
              omega
            · exact Iff.rfl
        · split
          · rename_i hm
            have hm : i ∈ B := by simpa using hm
            obtain ⟨k', hk', he⟩ := List.getElem_of_mem hm
            have hb' : B[k']? = some i := by rw [List.getElem?_eq_getElem hk', he]
            obtain ⟨e1, e2, _⟩ := hB k' i hb'
            omega
          · exact hinv.cle)
    split
    · rename_i hw; rw [if_pos hw] at this; exact .inl this
    · rename_i hw; rw [if_neg hw] at this; exact this

/-- A DRAWN REGION, and what comes behind it: 'v': what its operations yield; 'B': those that turn the blocks, in their order; 'Ls c': the blocks when c of these are done; 'T'': what is still looked at behind it -/
theorem IW.drawn1 {id : Nat} {l : List Oper} {Q : Exit → St → Prop} {σ0 : St} (hmix : P.follows .mixedOrders = true) (v : List IV) (B lo hi : List Nat) (Ls : Nat → List (Option Blk)) (T' : List (Nat × IV)) (hL0 : Ls 0 = σ0.L) (hchk : chkDraw l B lo hi = true) (hv : v.length = l.length)
    (H : AllOps (fun i o => ∀ c T T', lo.getD i 0 ≤ c → c ≤ hi.getD i 0 → (∀ t x, lookv l v σ0.T i t = some x → lk T t = some x) → putT o.dst v[i]? T = some T' →
      IG P fx l.toArray o (fun σ1 => σ1 = ⟨σ0.N, T', Ls (if B.contains i = true then c + 1 else c)⟩) ⟨σ0.N, T, Ls c⟩) 0 l)
    (hT : AllT (finv l v σ0.T) T') (hQ : Q .normal ⟨σ0.N, T', Ls B.length⟩) : IW P fx (.region id l.toArray true) Q σ0 := by
  intro cx a w QQ hs hn
  refine wp_region_any hmix ?_
  have hB : ∀ k b, B[k]? = some b → b < l.length := fun k b hb => by
    simp only [chkDraw, Bool.and_eq_true, List.all_eq_true, List.mem_range] at hchk
    have := hchk.2 k (List.getElem?_eq_some_iff.1 hb).1
    rw [hb] at this
    simp only [Bool.and_eq_true, decide_eq_true_eq] at this
    exact this.2
  have hrep : ∀ i, (Array.replicate l.toArray.size false).getD i false = false := fun i => by
    simp [Array.getElem?_replicate]; split <;> rfl
  refine wpAny_of hchk H hv (QQ := QQ) (fun σ1 cx1 a1 w1 hN hL hk hs1 => ?_) _ _ 0 σ0 cx a _ (Nat.le_trans List.countP_le_length (by simp)) ?_ ⟨hs.m.grow' (Fr.drew w []), hs.s.mono (fun _ _ h => h) rfl (Cx.le_refl cx) (fun _ _ => rfl)⟩
  · refine hn .normal ⟨σ0.N, T', Ls B.length⟩ cx1 a1 w1 hQ ⟨hs1.m.sameL hL.symm, ?_⟩
    exact hs1.s.mono (fun t x hx => hk t x (AllT.lk hT hx)) hN.symm (Cx.le_refl _) (fun _ _ => rfl)
  · refine ⟨by simp, rfl, hL0.symm, fun i d x _ hi _ => ?_, fun t _ => rfl, fun i hi => ?_, fun k b hb => ?_, Nat.zero_le _⟩
    · rw [hrep] at hi; cases hi
    · rw [hrep] at hi; cases hi
    · rw [hrep]; simp
end
end Go.Lift
