/- A law's row with the sizes of what is handed over. -/
import Derived.Test.YthekbbgpmiogdaaLY8
namespace Go.Lift
open Go Go.RowKit Go.ChangeShapes Go.WideShapes

/-- each row handed over takes at most so many bytes (b: an element's bytes; 0: not asked) -/
def WtA : List Nat → List IV → Prop
  | b :: bs, x :: xs => (∀ n cs, x = .tr n cs → n * b ≤ reachBytes) ∧ WtA bs xs
  | _, _ => True
def BtA (P : Program) : List TypeId → List Nat → Prop
  | t :: ts, b :: bs => (b = 0 ∨ ∃ e, P.underlying t = some (.slice e) ∧ P.bytesOf e = b) ∧ BtA P ts bs
  | _, _ => True

section
variable {P : Program} {H : Type} {enc : TypeId × Value → H} {w : World} {base : Nat} {spare : Nat → Bool} {held : Bool}
theorem wtA {R : Nat → Prop} : ∀ {ts : List TypeId} {bs : List Nat} {A : List IV} {vs : List Value} {ds : List (DataW H)} {q : List MemPlace} {os : List OwnR} {vt : List TypeId} {gs : List (DataW H)}, DataW.TrodAll enc P w base spare held ts vs ds q → BRl P R w A vs os → BtA P ts bs →
    (DataW.weightsEach P (ts ++ vt) (ds ++ gs)).all (· ≤ reachBytes) = true → WtA bs A
  | [], bs, A, vs, ds, q, os, vt, gs, h, hA, _, _ => by
    cases vs <;> cases ds <;> simp [DataW.TrodAll] at h
    cases A with
    | nil => cases bs <;> simp [WtA]
    | cons x xs => unfold BRl at hA; obtain ⟨_, _, _, _, e, _⟩ := hA; cases e
  | t :: ts, bs, A, vs, ds, q, os, vt, gs, h, hA, hb, hz => by
    obtain ⟨v, vs', d, ds', p1, p2, rfl, rfl, rfl, h1, h2⟩ := trodAll_cons h
    cases bs with
    | nil => simp [WtA]
    | cons b bs =>
      cases A with
      | nil => simp [WtA]
      | cons x xs =>
        unfold BRl at hA
        obtain ⟨y, ys, o1, o2, e, r1, r2, _⟩ := hA
        cases e
        unfold BtA at hb
        obtain ⟨hb, hbs⟩ := hb
        simp only [List.cons_append, DataW.weightsEach, List.all_append, Bool.and_eq_true] at hz
        unfold WtA
        refine ⟨fun n cs hx => ?_, wtA h2 r2 hbs hz.2⟩
        rcases hb with rfl | ⟨e, he, rfl⟩
        · simp
        · subst hx
          unfold BR TR at r1
          obtain ⟨⟨a, c, rfl, hn, _⟩, _⟩ := r1
          obtain ⟨fuel, h1⟩ := h1
          rcases DataW.trod_slice he h1 with ⟨e1, _⟩ | ⟨a', len, cap, elems, rest, m, _, e1, e2, _, _, _, hlen, _⟩
          · simp [Value.cells] at e1
            obtain ⟨_, rfl, _⟩ := e1
            simp
          · simp [Value.cells] at e1
            obtain ⟨_, rfl, _⟩ := e1
            cases e2
            have := hz.1
            simp only [DataW.weights, he, List.all_cons, Bool.and_eq_true, decide_eq_true_eq, List.length_map] at this
            exact Nat.le_trans (Nat.mul_le_mul_right _ (by omega)) this.1

/-- the contract that a law's row asks for, with the arguments' sizes -/
theorem law_contractW {f : FuncId} {fn : Func} {s : ChangeSpec} {tb : TypeId} {ps : List Par} (hl : laidOutB P = true) (hvars : s.vars = []) (hspec : ∀ ds : List (DataW H), ds.length = fn.params.toList.length → s.fn H ds = { results := [.lit (.bool true)], args := ds })
    (hres : fn.resultTypes = #[tb]) (hb : P.underlying tb = some .bool) (hread : ∀ t ∈ fn.params.toList, P.readableRec t = true ∧ t < P.types.size) (hsh : ShA P fn.params.toList ps) {bs : List Nat} (hbs : BtA P fn.params.toList bs) (hS : ∀ A, TyA ps A → WtA bs A → ∃ A', SCall P f A (.v (.bool true)) A')
    (W : World) (base : Nat) (args : Array Value) (ds gs : List (DataW H)) (before : List MemPlace) (hval : ∀ (j : Nat) t v, fn.params[j]? = some t → args[j]? = some v → Value.okWide P W .any base t v)
    (hW : DataW.Whole enc P fn.params.toList s.vars false W args.toList ds gs before)
    (hsz : (DataW.weightsEach P (fn.params.toList ++ s.plain.varTypes P) (ds ++ gs)).all (· ≤ reachBytes) = true) : Calls P f args W fun e W' => ∃ v, e = .returned v ∧ s.post enc P fn false true false false W args v W' := by
  have hW' := hW
  obtain ⟨p, q, hA, hV, rfl, hfz, hnd⟩ := hW
  rw [hvars] at hV
  obtain ⟨rfl, rfl⟩ := trodVars_none hV
  obtain ⟨A, hty, hBR⟩ := trodAll_ty hsh hA (r := .any) (b := base) fun j t v ht hv => hval j t v (by simpa using ht) (by simpa using hv)
  obtain ⟨A', hS⟩ := hS A hty (wtA hA hBR hbs hsz)
  refine (hS W (Rb W) args.toList [] hBR (by simp [Disj]) (fun b hb => hb) (fun b o _ ⟨r, hr, _⟩ => by simp at hr)).mono ?_
  rintro e W' ⟨v, R', o1, o2, rfl, r1, _, _, _, _, _, _, hfr⟩
  unfold BR at r1
  obtain ⟨rfl, _⟩ := r1
  have bel := below_of_fr hfr
  have hlen : ds.length = fn.params.toList.length := by
    have : ∀ {ts : List TypeId} {vs : List Value} {ds : List (DataW H)} {q : List MemPlace}, DataW.TrodAll enc P W 0 (fun _ => true) true ts vs ds q → ds.length = ts.length := by
      intro ts
      induction ts with
      | nil => intro vs ds q h; cases vs <;> cases ds <;> simp [DataW.TrodAll] at h ⊢
      | cons t ts ih =>
        intro vs ds q h
        obtain ⟨v, vs', d, ds', p1, p2, rfl, rfl, rfl, h1, h2⟩ := trodAll_cons h
        simp [ih h2]
    exact this hA
  refine ⟨_, rfl, ds, [], p ++ [], [], p, [], hW', ?_, ?_, ?_, bel.frame _, fun h => by cases h⟩
  · rw [List.append_nil, hspec ds hlen, hres]
    exact trodAll_mk1 (shut_bool hb _)
  · rw [List.append_nil, hspec ds hlen]
    exact trodAll_below hl bel hread hA
  · rw [List.append_nil, hspec ds hlen, hvars]
    rfl
end
/-! an array's literal, all elements given in order -/
def stepArr (TT : TTab) (o : Oper) (σ : St) (K : St → Prop) : Prop :=
  match o.op with
  | .build t ps => ob (TT t) fun i => match i.desc with
    | .arr _ e => ob (TT e) fun ie => ob (litCells ie.size 0 ps.toList σ) fun cs => ps.toList.length * ie.size = i.size ∧ fin o σ (.agg cs) σ.L K
    | _ => False
  | _ => False
section
variable {P : Program} {TT : TTab} {fx : Fx} {cx : Cx} {σ : St} {a : Act} {w : World} {o : Oper} {K : St → Prop} {next : Act → World → Prop} {Q : Exit → Act → World → Prop}
theorem step_arr {t e : TypeId} {ps : Array (Nat × Operand)} {i ie : TI} {n : Nat} {cs : List IV} (htt : TTok P TT) (ho : o.op = .build t ps) (hs : Sim P fx cx σ a w) (h1 : TT t = some i) (hd : i.desc = .arr n e) (he : TT e = some ie)
    (hc : litCells ie.size 0 ps.toList σ = some cs) (hsz : ps.toList.length * ie.size = i.size) (h2 : fin o σ (.agg cs) σ.L K) (hn : Nx P fx cx K next) : o.wp P a w next Q := by
  have hi := htt _ _ h1
  have hie := htt _ _ he
  obtain ⟨d, d1, d2, _⟩ := hi.desc
  rw [hd] at d2
  obtain rfl : d = .array n e := d2
  obtain ⟨j, hj, hj2, hj3, z, hz1, hz2⟩ := hi.info
  have hzl : z.cells.size = i.size := by have := hz2.length; rw [hi.zlen] at this; simpa using this
  obtain ⟨arr, us, u1, u2, u3, u4, u5⟩ := fill_lit (a := a) (cells := z.cells) hs.s hc (by simp at hsz ⊢; omega)
  have harr : arr.toList = us := by
    rw [u2]
    have e1 : (0 + ps.toList.length) * ie.size = z.cells.toList.length := by simp at hsz ⊢; omega
    rw [e1]; simp
  refine pure_sound hs (y := .agg arr) ?_ (by unfold VX; exact ⟨arr, rfl, by rw [harr]; exact u3, by rw [harr]; exact u4⟩) h2 hn
  have hmap : (ps.map fun (i, x) => (i, a.eval x)).toList = ps.toList.map fun p => (p.1, a.eval p.2) := by rw [Array.toList_map]
  simp only [execOp, ho, Instr.build, Sem.run_bind, run_zeroValue hj hz1, Result.andThen_ok, run_underlying d1, sizeOf_run hie]
  rw [hmap]
  rw [u1]; rfl
theorem IL.stepArr (htt : TTok P TT) {ops : Array Oper} {o : Oper} {l : List Oper} {σ σ' : St} {K : St → Prop} (hg : Gok ops σ o) (h : ∀ K : St → Prop, K σ' → Lift.stepArr TT o σ K) (hr : IL P fx ops l K σ') : IL P fx ops (o :: l) K σ := by
  refine IL.ok hg (fun _ _ _ _ _ hs hn => ?_)
  have hK := h _ hr
  unfold Lift.stepArr at hK
  split at hK
  · obtain ⟨i, t1, hK⟩ := ob_elim hK
    split at hK
    · obtain ⟨ie, t2, hK⟩ := ob_elim hK
      obtain ⟨cs, t3, hK⟩ := ob_elim hK
      exact step_arr htt ‹_› hs t1 ‹_› t2 t3 hK.1 hK.2 fun σ1 cx' a' w' hK _ hs' => hn σ1 cx' a' w' hK hs'
    · exact hK.elim
  · exact hK.elim
end
attribute [go_sem] Lift.stepArr
end Go.Lift
