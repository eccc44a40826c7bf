/- Lists of operations, code. -/
import Derived.Test.YthekbbgpmiogdaaLZP
import Derived.ScopeJumps
import Derived.WalkMore
import Derived.Deep.LoopGhost
namespace Go.Lift
open Go Go.RowKit

section
variable {P : Program} {TT : TTab} {fx : Fx}

/-- code c, from σ on, ends so that Q holds -/
def IW (P : Program) (fx : Fx) (c : Code) (Q : Exit → St → Prop) (σ : St) : Prop :=
  ∀ cx a w (QQ : Exit → Act → World → Prop), Sim P fx cx σ a w → (∀ e σ' cx' a' w', Q e σ' → Sim P fx cx' σ' a' w' → QQ e a' w') → c.wp P QQ a w
/-- operations, one behind the other -/
def IL (P : Program) (fx : Fx) (ops : Array Oper) (l : List Oper) (K : St → Prop) (σ : St) : Prop :=
  ∀ cx a w (QQ : Exit → Act → World → Prop), Sim P fx cx σ a w → (∀ σ' cx' a' w', K σ' → Sim P fx cx' σ' a' w' → QQ .normal a' w') → wpList P ops QQ l a w
/-- one operation -/
def IP (P : Program) (fx : Fx) (o : Oper) (K : St → Prop) (σ : St) : Prop :=
  ∀ cx a w (next : Act → World → Prop) (QQ : Exit → Act → World → Prop), Sim P fx cx σ a w → (∀ σ1 cx' a' w', K σ1 → Sim P fx cx' σ1 a' w' → next a' w') → o.wp P a w next QQ

theorem IP.of_step {o : Oper} {K : St → Prop} {σ : St} (htt : TTok P TT) (h : stepOp TT o σ K) : IP P fx o K σ :=
  fun _ _ _ _ _ hs hn => stepOp_sound htt hs h fun σ1 cx' a' w' hK _ hs' => hn σ1 cx' a' w' hK hs'
theorem IP.mono {o : Oper} {K K' : St → Prop} {σ : St} (h : IP P fx o K σ) (hk : ∀ σ, K σ → K' σ) : IP P fx o K' σ :=
  fun cx a w next QQ hs hn => h cx a w next QQ hs fun σ1 cx' a' w' hK hs' => hn σ1 cx' a' w' (hk _ hK) hs'

theorem IL.nil {ops : Array Oper} {K : St → Prop} {σ : St} (h : K σ) : IL P fx ops [] K σ := fun _ _ _ _ hs hn => wpList_nil (hn _ _ _ _ h hs)
theorem IL.cons {ops : Array Oper} {o : Oper} {l : List Oper} {K : St → Prop} {σ : St} (hg : o.guard = none) (h : IP P fx o (IL P fx ops l K) σ) : IL P fx ops (o :: l) K σ :=
  fun cx a w QQ hs hn => wpList_plain hg fun K' hK' => h cx a w K' QQ hs fun _ cx' a' w' hl hs' => hK' _ _ (hl cx' a' w' QQ hs' hn)
/-- what a guard's operation has yielded -/
def gval (ops : Array Oper) (σ : St) (j : Nat) : Option IV := ((ops[j]?).bind (·.dst)).bind (lk σ.T)
theorem yielded_bool {ops : Array Oper} {σ : St} {cx : Cx} {a : Act} {w : World} (hs : Tmps cx σ a w) {j : Nat} {b : Bool} (h : gval ops σ j = some (.v (.bool b))) : yielded ops a.tmps j = some b := by
  unfold gval at h
  unfold yielded
  cases hd : (ops[j]?).bind (·.dst) with
  | none => rw [hd] at h; cases h
  | some d =>
    rw [hd] at h
    simp only [Option.bind_some] at h ⊢
    obtain ⟨y, h1, h2⟩ := hs.tmp d _ h
    rw [VX.v_inv h2] at h1
    simp [h1]
theorem yielded_undef {ops : Array Oper} {σ : St} {cx : Cx} {a : Act} {w : World} (hs : Tmps cx σ a w) {j : Nat} (h : gval ops σ j = some (.v (.tuple #[]))) : yielded ops a.tmps j = none := by
  unfold gval at h
  unfold yielded
  cases hd : (ops[j]?).bind (·.dst) with
  | none => rw [hd] at h; cases h
  | some d =>
    rw [hd] at h
    simp only [Option.bind_some] at h ⊢
    obtain ⟨y, h1, h2⟩ := hs.tmp d _ h
    rw [VX.v_inv h2] at h1
    simp [h1]
/-- an operation that is passed over -/
def skipOp (o : Oper) (σ : St) (K : St → Prop) : Prop := fin o σ (.v (.tuple #[])) σ.L K
theorem IL.guard {ops : Array Oper} {o : Oper} {l : List Oper} {K : St → Prop} {σ : St} {j : Nat} {want b : Bool} (hg : o.guard = some (j, want)) (hb : gval ops σ j = some (.v (.bool b)))
    (h1 : b = want → IP P fx o (IL P fx ops l K) σ) (h2 : ¬ b = want → skipOp o σ (IL P fx ops l K)) : IL P fx ops (o :: l) K σ := by
  intro cx a w QQ hs hn
  unfold wpList
  have hy := yielded_bool hs.s hb
  by_cases hw : b = want
  · rw [if_pos (by simp [Region.wanted, hg, hy, hw])]
    exact .inl (h1 hw cx a w _ QQ hs fun σ' cx' a' w' hl hs' => hl cx' a' w' QQ hs' hn)
  · rw [if_neg (by simp [Region.wanted, hg, hy, hw])]
    have := h2 hw
    unfold skipOp fin at this
    split at this
    · rename_i d hd
      rw [hd]
      exact this.2 cx _ w QQ ⟨hs.m.sameL rfl, (hs.s.put d this.1 (.v (.tuple #[])) undef (by simp [VX]; rfl))⟩ hn
    · rename_i hd
      rw [hd]
      exact this cx a w QQ hs hn
theorem IL.guard_undef {ops : Array Oper} {o : Oper} {l : List Oper} {K : St → Prop} {σ : St} {j : Nat} {want : Bool} (hg : o.guard = some (j, want)) (hb : gval ops σ j = some (.v (.tuple #[])))
    (h2 : skipOp o σ (IL P fx ops l K)) : IL P fx ops (o :: l) K σ := by
  intro cx a w QQ hs hn
  unfold wpList
  have hy := yielded_undef hs.s hb
  rw [if_neg (by simp [Region.wanted, hg, hy])]
  unfold skipOp fin at h2
  split at h2
  · rename_i d hd
    rw [hd]
    exact h2.2 cx _ w QQ ⟨hs.m.sameL rfl, (hs.s.put d h2.1 (.v (.tuple #[])) undef (by simp [VX]; rfl))⟩ hn
  · rename_i hd
    rw [hd]
    exact h2 cx a w QQ hs hn

/-! ### code -/
theorem IW.region {id : Nat} {l : List Oper} {Q : Exit → St → Prop} {σ : St} (h : IL P fx l.toArray l (Q .normal) σ) : IW P fx (.region id l.toArray false) Q σ :=
  fun cx a w QQ hs hn => wp_region_lit (h cx a w QQ hs fun σ' cx' a' w' hQ hs' => hn .normal σ' cx' a' w' hQ hs')
def thenQ (next : St → Prop) (Q : Exit → St → Prop) : Exit → St → Prop
  | .normal, σ => next σ
  | e, σ => Q e σ
def blockQ (id : Nat) (Q : Exit → St → Prop) : Exit → St → Prop
  | .exit id', σ => if id' = id then Q .normal σ else Q (.exit id') σ
  | e, σ => Q e σ
def jumpQ (J : Nat → St → Prop) (Q : Exit → St → Prop) : Exit → St → Prop
  | .goto l, σ => J l σ
  | e, σ => Q e σ
theorem IW.seq {x y : Code} {Q : Exit → St → Prop} {σ : St} (h : IW P fx x (thenQ (IW P fx y Q) Q) σ) : IW P fx (.seq x y) Q σ := by
  intro cx a w QQ hs hn
  refine wp_seq (h cx a w _ hs fun e σ' cx' a' w' hq hs' => ?_)
  cases e <;> simp only [thenQ] at hq <;> simp only [Exit.then] <;> first
    | exact hq cx' a' w' QQ hs' hn
    | exact hn _ _ _ _ _ hq hs'
theorem IW.skip {Q : Exit → St → Prop} {σ : St} (h : Q .normal σ) : IW P fx .skip Q σ := fun _ _ _ _ hs hn => wp_skip (hn _ _ _ _ _ h hs)
theorem IW.label {l : Nat} {Q : Exit → St → Prop} {σ : St} (h : Q .normal σ) : IW P fx (.label l) Q σ := fun _ _ _ _ hs hn => wp_label (hn _ _ _ _ _ h hs)
theorem IW.exit {id : Nat} {Q : Exit → St → Prop} {σ : St} (h : Q (.exit id) σ) : IW P fx (.exit id) Q σ := fun _ _ _ _ hs hn => wp_exit (hn _ _ _ _ _ h hs)
theorem IW.goto {l : Nat} {Q : Exit → St → Prop} {σ : St} (h : Q (.goto l) σ) : IW P fx (.goto l) Q σ := fun _ _ _ _ hs hn => wp_goto (hn _ _ _ _ _ h hs)
theorem IW.ret {Q : Exit → St → Prop} {σ : St} (h : Q .ret σ) : IW P fx .ret Q σ := fun _ _ _ _ hs hn => wp_ret (hn _ _ _ _ _ h hs)
theorem IW.cond {c : Operand} {x y : Code} {Q : Exit → St → Prop} {σ : St} {b : Bool} (hb : ev σ c = some (.v (.bool b))) (h1 : b = true → IW P fx x Q σ) (h2 : b = false → IW P fx y Q σ) : IW P fx (.cond c x y) Q σ := by
  intro cx a w QQ hs hn
  have e := VX.v_inv (ev_sound hs.s hb)
  refine wp_cond e ?_
  cases b
  · exact h2 rfl cx a w QQ hs hn
  · exact h1 rfl cx a w QQ hs hn
theorem IW.block {id : Nat} {c : Code} {Q : Exit → St → Prop} {σ : St} (h : IW P fx c (blockQ id Q) σ) : IW P fx (.block id c) Q σ := by
  intro cx a w QQ hs hn
  refine wp_block (h cx a w _ hs fun e σ' cx' a' w' hq hs' => ?_)
  cases e <;> simp only [blockQ] at hq <;> simp only [Exit.inBlock] <;> first
    | exact hn _ _ _ _ _ hq hs'
    | (split
       · rename_i e; rw [if_pos e] at hq; exact hn _ _ _ _ _ hq hs'
       · rename_i e; rw [if_neg e] at hq; exact hn _ _ _ _ _ hq hs')
theorem IW.mono {c : Code} {Q Q' : Exit → St → Prop} {σ : St} (h : IW P fx c Q σ) (hq : ∀ e σ, Q e σ → Q' e σ) : IW P fx c Q' σ :=
  fun cx a w QQ hs hn => h cx a w QQ hs fun e σ' cx' a' w' hQ hs' => hn e σ' cx' a' w' (hq _ _ hQ) hs'

/-- one state stands for another: less is known of it -/
def Weak (P : Program) (fx : Fx) (σ σ' : St) : Prop := ∀ cx a w, Sim P fx cx σ a w → ∃ cx', Sim P fx cx' σ' a w
theorem IW.weak {c : Code} {Q : Exit → St → Prop} {σ σ' : St} (hw : Weak P fx σ σ') (h : IW P fx c Q σ') : IW P fx c Q σ :=
  fun cx a w QQ hs hn => by obtain ⟨cx', hs'⟩ := hw cx a w hs; exact h cx' a w QQ hs' hn

/-- A LOOP: 'I n': what holds at its head where n bounds the rounds; each state at a round's end stands for one of I m, m < n. -/
theorem IW.loop {c : Code} {Q : Exit → St → Prop} {σ : St} (I : Nat → St → Prop) (n0 : Nat) (h0 : ∃ σ', Weak P fx σ σ' ∧ I n0 σ')
    (h : ∀ n σ, I n σ → IW P fx c (thenQ (fun σ1 => ∃ σ' m, Weak P fx σ1 σ' ∧ m < n ∧ I m σ') Q) σ) : IW P fx (.loop c) Q σ := by
  intro cx a w QQ hs hn
  obtain ⟨σ', hw, hI⟩ := h0
  obtain ⟨cx', hs'⟩ := hw cx a w hs
  refine wp_loop_ghost (fun n a w => ∃ σ cx, I n σ ∧ Sim P fx cx σ a w) n0 ⟨σ', cx', hI, hs'⟩ ?_
  rintro n a w ⟨σ, cx, hI, hs⟩
  refine h n σ hI cx a w _ hs fun e σ1 cx1 a1 w1 hq hs1 => ?_
  cases e <;> simp only [thenQ] at hq <;> simp only [Exit.then] <;> first
    | exact hn _ _ _ _ _ hq hs1
    | (obtain ⟨σ2, m, hw, hm, hI2⟩ := hq
       obtain ⟨cx2, hs2⟩ := hw cx1 a1 w1 hs1
       exact ⟨m, hm, σ2, cx2, hI2, hs2⟩)

theorem wp_scope_multi {c : Code} {QQ : Exit → Act → World → Prop} {a : Act} {w : World} (J : Nat → Nat → Act → World → Prop)
    (first : c.wp P (fun e a w => match e with | .goto l => ∃ n, J n l a w | e => QQ e a w) a w)
    (pass : ∀ n l a w, J n l a w → ∃ rest, findLabel c l = some rest ∧ rest.wp P (fun e a w => match e with | .goto l' => ∃ m, m < n ∧ J m l' a w | e => QQ e a w) a w) : (Code.scope c).wp P QQ a w := by
  intro b k cs
  have key : ∀ n l a w rest, findLabel c l = some rest → J n l a w → ∃ e a' w', QQ e a' w' ∧ Arrives P (lone (b.at a (.code rest :: .inScope c :: k)) cs w) b k cs e a' w' := by
    intro n
    induction n using Nat.strongRecOn with
    | _ n ih =>
      intro l a w rest hl hJ
      obtain ⟨rest', hl', hp⟩ := pass n l a w hJ
      rw [hl] at hl'; cases hl'
      obtain ⟨e, a₁, w₁, hq, harr⟩ := hp b (.inScope c :: k) cs
      cases e with
      | normal => exact ⟨.normal, a₁, w₁, hq, Steps.trans harr (.one step_inScope)⟩
      | exit id => exact ⟨.exit id, a₁, w₁, hq, fun k' hk => harr k' (by simp [exitTo, hk])⟩
      | goto l' =>
        obtain ⟨m, hm, hJ'⟩ := hq
        obtain ⟨rest2, hl2, _⟩ := pass m l' a₁ w₁ hJ'
        have hg : gotoIn l' (.inScope c :: k) = some (.code rest2 :: .inScope c :: k) := by simp [gotoIn, hl2]
        obtain ⟨e₂, a₂, w₂, hq₂, harr₂⟩ := ih m hm l' a₁ w₁ rest2 hl2 hJ'
        exact ⟨e₂, a₂, w₂, hq₂, .of_steps (harr _ hg) harr₂⟩
      | ret => exact ⟨_, a₁, w₁, hq, harr⟩
      | panic ch => exact ⟨_, a₁, w₁, hq, harr⟩
      | outgrown => exact ⟨_, a₁, w₁, hq, harr⟩
  obtain ⟨e, a₁, w₁, hq, harr⟩ := first b (.inScope c :: k) cs
  cases e with
  | normal => exact ⟨.normal, a₁, w₁, hq, .head step_scope (Steps.trans harr (.one step_inScope))⟩
  | exit id => exact ⟨.exit id, a₁, w₁, hq, fun k' hk => .head step_scope (harr k' (by simp [exitTo, hk]))⟩
  | goto l' =>
    obtain ⟨n, hJ⟩ := hq
    obtain ⟨rest, hl, _⟩ := pass n l' a₁ w₁ hJ
    have hg : gotoIn l' (.inScope c :: k) = some (.code rest :: .inScope c :: k) := by simp [gotoIn, hl]
    obtain ⟨e₂, a₂, w₂, hq₂, harr₂⟩ := key n l' a₁ w₁ rest hl hJ
    exact ⟨e₂, a₂, w₂, hq₂, .of_steps (.head step_scope (harr _ hg)) harr₂⟩
  | ret => exact ⟨_, a₁, w₁, hq, .of_steps (.one step_scope) harr⟩
  | panic ch => exact ⟨_, a₁, w₁, hq, .of_steps (.one step_scope) harr⟩
  | outgrown => exact ⟨_, a₁, w₁, hq, .of_steps (.one step_scope) harr⟩

/-- A SCOPE WITH LABELS: 'J n l': what holds at a goto to label l, n bounding what is still to come. -/
theorem IW.scope {c : Code} {Q : Exit → St → Prop} {σ : St} (J : Nat → Nat → St → Prop) (h0 : IW P fx c (jumpQ (fun l σ1 => ∃ σ' n, Weak P fx σ1 σ' ∧ J n l σ') Q) σ)
    (h : ∀ n l σ, J n l σ → ∃ rest, findLabel c l = some rest ∧ IW P fx rest (jumpQ (fun l σ1 => ∃ σ' m, Weak P fx σ1 σ' ∧ m < n ∧ J m l σ') Q) σ) : IW P fx (.scope c) Q σ := by
  intro cx a w QQ hs hn
  refine wp_scope_multi (fun n l a w => ∃ σ cx, J n l σ ∧ Sim P fx cx σ a w) ?_ ?_
  · refine h0 cx a w _ hs fun e σ1 cx1 a1 w1 hq hs1 => ?_
    cases e <;> simp only [jumpQ] at hq <;> first
      | exact hn _ _ _ _ _ hq hs1
      | (obtain ⟨σ2, n, hw, hJ⟩ := hq
         obtain ⟨cx2, hs2⟩ := hw cx1 a1 w1 hs1
         exact ⟨n, σ2, cx2, hJ, hs2⟩)
  · rintro n l a w ⟨σ, cx, hJ, hs⟩
    obtain ⟨rest, hl, hr⟩ := h n l σ hJ
    refine ⟨rest, hl, hr cx a w _ hs fun e σ1 cx1 a1 w1 hq hs1 => ?_⟩
    cases e <;> simp only [jumpQ] at hq <;> first
      | exact hn _ _ _ _ _ hq hs1
      | (obtain ⟨σ2, m, hw, hm, hJ⟩ := hq
         obtain ⟨cx2, hs2⟩ := hw cx1 a1 w1 hs1
         exact ⟨m, hm, σ2, cx2, hJ, hs2⟩)
end
end Go.Lift
