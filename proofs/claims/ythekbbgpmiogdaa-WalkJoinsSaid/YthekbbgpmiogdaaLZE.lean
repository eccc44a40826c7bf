/- Operations: what the evaluator says, the machine does. -/
import Derived.Test.YthekbbgpmiogdaaLZD
namespace Go.Lift
open Go Go.RowKit

def ob {α : Type} (x : Option α) (f : α → Prop) : Prop :=
  match x with
  | some a => f a
  | none => False
theorem ob_some {α : Type} (a : α) (f : α → Prop) : ob (some a) f = f a := rfl
theorem ob_none {α : Type} (f : α → Prop) : ob none f = False := rfl
theorem ob_elim {α : Type} {x : Option α} {f : α → Prop} (h : ob x f) : ∃ a, x = some a ∧ f a := by
  cases x with
  | none => exact h.elim
  | some a => exact ⟨a, rfl, h⟩

def fin (o : Oper) (σ : St) (v : IV) (L' : List (Option Blk)) (K : St → Prop) : Prop :=
  match o.dst with
  | some d => d < σ.N ∧ K { σ with T := (d, v) :: σ.T, L := L' }
  | none => K { σ with L := L' }

section
variable {P : Program} {fx : Fx} {cx : Cx} {σ : St} {a : Act} {w : World}

theorem ofS_sound {c : Value} {v : IV} (h : ofS c = some v) : VX cx w v c := by
  unfold ofS at h
  split at h <;> first | (cases h; done) | (cases h; simp [VX])
theorem ofS_one {c : Value} {v : IV} (h : ofS c = some v) : c.oneCell' = true := by
  unfold ofS at h
  split at h <;> first | (cases h; done) | rfl
theorem ofSs_sound : ∀ {cs : List Value} {vs : List IV}, ofSs cs = some vs → VXl cx w vs cs ∧ ∀ z ∈ cs, z.oneCell' = true
  | [], vs, h => by simp [ofSs] at h; subst h; exact ⟨VXl.nil, by simp⟩
  | c :: cs, vs, h => by
    unfold ofSs at h
    split at h
    · rename_i y ys h1 h2
      cases h
      have := ofSs_sound h2
      exact ⟨VXl.cons (ofS_sound h1) this.1, by simp; exact ⟨ofS_one h1, this.2⟩⟩
    · cases h
theorem ofV_sound {c : Value} {v : IV} (h : ofV c = some v) : VX cx w v c := by
  unfold ofV at h
  split at h
  · rename_i cs
    cases hh : ofSs cs.toList with
    | none => rw [hh] at h; cases h
    | some vs =>
      rw [hh] at h; cases h
      unfold VX
      exact ⟨cs, rfl, ofSs_sound hh⟩
  · exact ofS_sound h
theorem Tmps.eval (h : Tmps cx σ a w) {t : Nat} {x : IV} (hx : lk σ.T t = some x) : VX cx w x (a.eval (.tmp t)) := by
  obtain ⟨y, h1, h2⟩ := h.tmp t x hx
  simp [Act.eval, Array.getD_eq_getD_getElem?, h1]; exact h2
theorem ev_sound (h : Tmps cx σ a w) {x : Operand} {v : IV} (hx : ev σ x = some v) : VX cx w v (a.eval x) := by
  cases x with
  | tmp t => exact h.eval hx
  | const c => exact ofV_sound hx
  | global g => cases hx
  | func f => simp [ev] at hx; subst hx; simp only [VX, Act.eval]; exact ⟨#[], rfl, VXl.nil⟩

theorem fin_sound {o : Oper} {v : IV} {L' : List (Option Blk)} {K : St → Prop} {next : Act → World → Prop} {Q : Exit → Act → World → Prop} {cx' : Cx} {w' : World} {y : Value}
    (hs : Tmps cx σ a w) (hrun : (execOp a.eval o).run P w = .ok (.value y) w') (hle : cx.le cx') (hm : Mem P fx cx' { σ with L := L' } w') (hR : HeapEq cx.R w w') (hv : VX cx' w' v y)
    (hK : fin o σ v L' K) (hn : ∀ σ' cx' a' w', K σ' → cx.le cx' → Sim P fx cx' σ' a' w' → next a' w') : o.wp P a w next Q := by
  unfold Oper.wp
  rw [hrun]
  show next (a.put o.dst y) w'
  unfold fin at hK
  split at hK
  · rename_i d hd
    rw [hd]
    have ht := (hs.mono (σ' := { σ with L := L' }) (fun _ _ h => h) rfl hle hR).put d hK.1 v y hv
    exact hn _ cx' _ _ hK.2 hle ⟨hm.sameL rfl, ht⟩
  · rename_i hd
    rw [hd]
    exact hn _ cx' _ _ hK hle ⟨hm, hs.mono (σ' := { σ with L := L' }) (fun _ _ h => h) rfl hle hR⟩

theorem HeapEq.refl (R : Nat → Prop) (w : World) : HeapEq R w w := fun _ _ => rfl
theorem VX.v_inv {x y : Value} (h : VX cx w (.v x) y) : y = x := by simpa [VX] using h

/-- an operation that computes, of memory as it is -/
theorem pure_sound {o : Oper} {v : IV} {K : St → Prop} {next : Act → World → Prop} {Q : Exit → Act → World → Prop} {y : Value}
    (hs : Sim P fx cx σ a w) (hrun : (execOp a.eval o).run P w = .ok (.value y) w) (hv : VX cx w v y)
    (hK : fin o σ v σ.L K) (hn : ∀ σ' cx' a' w', K σ' → cx.le cx' → Sim P fx cx' σ' a' w' → next a' w') : o.wp P a w next Q :=
  fin_sound hs.s hrun (Cx.le_refl cx) (hs.m.sameL rfl) (HeapEq.refl _ _) hv hK hn

/-! ### numbers -/
theorem pbin_int {op : BinOp} {t : TypeId} {k k' : IntKind} {a b : Int} {z : Value} (h : pbin op (.int k a) (.int k' b) = some z) : (binOp op t (.int k a) (.int k' b)).run P w = .ok z w := by
  by_cases hs : op = .shl ∨ op = .shr
  · rcases hs with rfl | rfl <;> simp only [pbin, Option.ite_none_right_eq_some, Option.some.injEq] at h <;> obtain ⟨hb, rfl⟩ := h <;>
      (have : ¬ b < 0 := by omega) <;> simp [binOp, Op.shift, this]
  · have hk : k = k' := by
      by_cases e : k = k'
      · exact e
      · cases op <;> simp_all [pbin]
    subst hk
    cases op <;> simp [pbin] at h hs <;> first
      | (obtain ⟨hb, rfl⟩ := h; simp [binOp, Op.intDiv, hb]; done)
      | (subst h; simp [binOp, Op.intArith, Op.intCmp, intBits_and, intBits_or, intBits_xor, intBits_andNot])
theorem pbin_str {op : BinOp} {t : TypeId} {a b : ByteArray} {z : Value} (h : pbin op (.string a) (.string b) = some z) : (binOp op t (.string a) (.string b)).run P w = .ok z w := by
  by_cases hs : op = .add
  · subst hs
    simp only [pbin, Option.ite_none_right_eq_some, Option.some.injEq] at h
    obtain ⟨hb, rfl⟩ := h
    have : ¬ ((a.size + b.size : Nat) : Int) > IntKind.i64.max := by
      have : IntKind.i64.max = 9223372036854775807 := by decide
      rw [this]; omega
    simp only [binOp, Op.stringOp]
    rw [if_neg this]; rfl
  · cases op <;> simp [pbin] at h hs <;> (subst h; simp [binOp, Op.stringOp])
theorem pbin_float {op : BinOp} {t : TypeId} {a b : Nat} {z : Value} (h : pbin op (.float .f64 a) (.float .f64 b) = some z) : (binOp op t (.float .f64 a) (.float .f64 b)).run P w = .ok z w := by
  cases op <;> simp [pbin] at h <;> first
    | (obtain ⟨r, h1, rfl⟩ := h; exact run_float_arith w _ t .f64 a b r h1)
    | (subst h; simp [binOp, Op.floatCmp])
theorem floatCmp_eql (a b : Nat) : (Op.floatCmp .eql .f64 a b).run P w = .ok (.bool (feq a b)) w := by simp [Op.floatCmp, feq]
theorem pbin_complex {op : BinOp} {t : TypeId} {a b c d : Nat} {z : Value} (h : pbin op (.complex .f64 a b) (.complex .f64 c d) = some z) : (binOp op t (.complex .f64 a b) (.complex .f64 c d)).run P w = .ok z w := by
  cases op <;> simp [pbin] at h
  · obtain ⟨r, i, h1, rfl⟩ := h; exact run_complex_sum w .add (.inl rfl) t .f64 a b c d r i h1
  · obtain ⟨r, i, h1, rfl⟩ := h; exact run_complex_sum w .sub (.inr rfl) t .f64 a b c d r i h1
  · obtain ⟨r, i, h1, rfl⟩ := h; exact run_complex_mul w t a b c d r i h1
  · subst h; simp [binOp, Op.complexOp, Op.Complex.cmp, floatCmp_eql, asBool]
  · subst h; simp [binOp, Op.complexOp, Op.Complex.cmp, floatCmp_eql, asBool]
theorem pbin_sound {op : BinOp} {t : TypeId} {x y z : Value} (h : pbin op x y = some z) : (binOp op t x y).run P w = .ok z w := by
  cases x <;> cases y <;> first
    | exact pbin_int h
    | exact pbin_str h
    | (rename_i k a k' b; cases k <;> cases k' <;> first | exact pbin_float h | (simp [pbin] at h; done))
    | (rename_i k a b k' c d; cases k <;> cases k' <;> first | exact pbin_complex h | (simp [pbin] at h; done))
    | (simp [pbin] at h)
theorem eqGuard_run {op : BinOp} {t : TypeId} {x y : Operand} {u v : Value} (h : (match u with | .agg _ => false | .nilIface => false | _ => true) = true) : (eqGuard op t x y u v).run P w = .ok () w := by
  unfold eqGuard
  by_cases ho : (match op with | .eql | .neq => true | _ => false) = true
  · cases op <;> simp at ho <;> cases u <;> simp at h <;> cases v <;> rfl
  · cases op <;> simp at ho <;> rfl
theorem pbin_guard {op : BinOp} {t : TypeId} {x y : Operand} {u v z : Value} (h : pbin op u v = some z) : (eqGuard op t x y u v).run P w = .ok () w :=
  eqGuard_run (by cases u <;> simp [pbin] at h ⊢)
theorem pboolEq_sound {op : BinOp} {t : TypeId} {x y : Bool} {z : Value} (ht : P.underlying t = some .bool) (h : pboolEq op x y = some z) : (binOp op t (.bool x) (.bool y)).run P w = .ok z w := by
  cases op <;> simp [pboolEq] at h
  · subst h; exact run_eql_bool w t x y ht
  · subst h; exact run_neq_bool w t x y ht
theorem pun_sound {op : UnOp} {x z : Value} (h : pun op x = some z) : (Op.unary op x).run P w = .ok z w := by
  cases x <;> cases op <;> simp [pun] at h <;> (subst h; simp [Op.unary, Op.intArith, intBits_xor])
end
end Go.Lift
