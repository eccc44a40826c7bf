/- A law: from its function's contract to its row. -/
import Derived.Test.YthekbbgpmiogdaaLZ5
import Derived.SizedLaws
import Derived.WideShapes
import Derived.ProofKit
namespace Go.Lift
open Go Go.RowKit Go.ChangeShapes Go.WideShapes

/-- a parameter's type, as cells: is it a struct; which cells -/
structure Par where
  agg : Bool
  ss : List Sh
def argIV : Bool → List IV → IV
  | true, xs => .agg xs
  | false, x :: _ => x
  | false, [] => .gone
def TyA : List Par → List IV → Prop
  | [], A => A = []
  | p :: ps, A => ∃ xs B, A = argIV p.agg xs :: B ∧ Tyl p.ss xs ∧ TyA ps B
def isSc : TypeDesc → Bool
  | .int _ => true
  | .bool => true
  | .string => true
  | .slice _ => true
  | _ => false
inductive ShA (P : Program) : List TypeId → List Par → Prop
  | nil : ShA P [] []
  | one {t : TypeId} {ts : List TypeId} {s : Sh} {ps : List Par} {d : TypeDesc} (hd : P.underlying t = some d) (hs : isSc d = true) (h : ShT P t [s]) (hr : ShA P ts ps) : ShA P (t :: ts) (⟨false, [s]⟩ :: ps)
  | agg {t : TypeId} {ts : List TypeId} {ss : List Sh} {ps : List Par} {fs : Array Field} (hd : P.underlying t = some (.struct fs)) (h : ShT P t ss) (hr : ShA P ts ps) : ShA P (t :: ts) (⟨true, ss⟩ :: ps)

section
variable {P : Program} {H : Type} {enc : TypeId × Value → H} {w : World} {base : Nat} {spare : Nat → Bool} {held : Bool}

theorem okWide_sc {r : Reach} {b : Nat} {t : TypeId} {d : TypeDesc} {v : Value} (hd : P.underlying t = some d) (hs : isSc d = true) (h : Value.okWide P w r b t v) : v.cells.toList = [v] := by
  cases d <;> simp [isSc] at hs
  · cases v <;> simp_all [Value.okWide, Cell.okWide, Cell.ok, Value.cells]
  · cases v <;> simp_all [Value.okWide, Cell.okWide, Cell.ok, Value.cells]
  · cases v <;> simp_all [Value.okWide, Cell.okWide, Cell.ok, Value.cells]
  · cases v <;> simp_all [Value.okWide, Cell.okWide, Cell.ok, Value.cells]
theorem trodAll_ty {r : Reach} {b : Nat} : ∀ {ts : List TypeId} {ps : List Par} {vs : List Value} {ds : List (DataW H)} {q : List MemPlace}, ShA P ts ps → DataW.TrodAll enc P w base spare held ts vs ds q →
    (∀ (j : Nat) t v, ts[j]? = some t → vs[j]? = some v → Value.okWide P w r b t v) → ∃ A : List IV, TyA ps A ∧ BRl P (Rb w) w A vs []
  | [], ps, vs, ds, q, hsh, h, _ => by
    cases hsh
    cases vs <;> cases ds <;> simp [DataW.TrodAll] at h
    exact ⟨[], by simp [TyA], by simp [BRl]⟩
  | t :: ts, ps, vs, ds, q, hsh, h, hok => by
    obtain ⟨v, vs', d, ds', p1, p2, rfl, rfl, rfl, h1, h2⟩ := trodAll_cons h
    obtain ⟨fuel, h1⟩ := h1
    have hv := hok 0 t v rfl rfl
    cases hsh with
    | one hd hs hT hr =>
      obtain ⟨A, a1, a2⟩ := trodAll_ty hr h2 fun j t v ht hv => hok (j + 1) t v (by simpa using ht) (by simpa using hv)
      obtain ⟨xs, e1, e2⟩ := trod_ty fuel t _ _ _ hT h1
      rw [okWide_sc hd hs hv] at e2
      have hl := e1.length
      match xs, hl with
      | [x], _ =>
        unfold TRl at e2
        obtain ⟨y, ys, ey, ⟨e2, _⟩, _⟩ := e2
        cases ey
        refine ⟨x :: A, by unfold TyA; exact ⟨[x], A, rfl, e1, a1⟩, ?_⟩
        unfold BRl
        have hf : idFree x = true := by
          cases x <;> simp [TR] at e2 <;> rfl
        exact ⟨v, vs', [], [], rfl, BR_of_TR hf e2, a2, rfl⟩
    | agg hd hT hr =>
      obtain ⟨A, a1, a2⟩ := trodAll_ty hr h2 fun j t v ht hv => hok (j + 1) t v (by simpa using ht) (by simpa using hv)
      obtain ⟨xs, e1, e2⟩ := trod_ty fuel t _ _ _ hT h1
      simp only [Value.okWide, hd] at hv
      obtain ⟨cs, rfl, _⟩ := hv
      refine ⟨.agg xs :: A, by unfold TyA; exact ⟨xs, A, rfl, e1, a1⟩, ?_⟩
      unfold BRl
      exact ⟨.agg cs, vs', [], [], rfl, BR_of_TR rfl (by unfold TR; exact ⟨cs, rfl, by simpa [Value.cells] using e2⟩), a2, rfl⟩
theorem trodAll_below (hl : laidOutB P = true) {w' : World} (hb : Below w.heap.size w w') : ∀ {ts : List TypeId} {vs : List Value} {ds : List (DataW H)} {q : List MemPlace}, (∀ t ∈ ts, P.readableRec t = true ∧ t < P.types.size) → DataW.TrodAll enc P w 0 (fun _ => true) true ts vs ds q →
    DataW.TrodAll enc P w' 0 (fun b => decide (b < w.heap.size)) true ts vs ds q
  | [], vs, ds, q, _, h => by
    cases vs <;> cases ds <;> simp [DataW.TrodAll] at h
    subst h; rfl
  | t :: ts, vs, ds, q, hr, h => by
    obtain ⟨v, vs', d, ds', p1, p2, rfl, rfl, rfl, h1, h2⟩ := trodAll_cons h
    have hlt : ∀ x ∈ p1, x.block < w.heap.size := by obtain ⟨m, hm⟩ := h1; exact DataW.trod_lt m _ _ _ hm
    exact trodAll_cons_mk (Below.trod hl (hr t (by simp)).1 (hr t (by simp)).2 h1 hb hlt) (trodAll_below hl hb (fun t ht => hr t (by simp [ht])) h2)
theorem below_of_fr {w' : World} (h : Fr w w' []) : Below w.heap.size w w' := ⟨h.hos, h.htape, h.hout, h.hsize, fun b hb => h.hblk b hb fun o ⟨r, hr, _⟩ => by simp at hr⟩

/-- THE CONTRACT THAT A LAW's ROW ASKS FOR -/
theorem law_contract {f : FuncId} {fn : Func} {s : ChangeSpec} {tb : TypeId} {ps : List Par} (hl : laidOutB P = true) (hvars : s.vars = []) (hspec : ∀ ds : List (DataW H), ds.length = fn.params.toList.length → s.fn H ds = { results := [.lit (.bool true)], args := ds })
    (hres : fn.resultTypes = #[tb]) (hb : P.underlying tb = some .bool) (hread : ∀ t ∈ fn.params.toList, P.readableRec t = true ∧ t < P.types.size) (hsh : ShA P fn.params.toList ps) (hS : ∀ A, TyA ps A → ∃ A', SCall P f A (.v (.bool true)) A')
    (W : World) (base : Nat) (args : Array Value) (ds gs : List (DataW H)) (before : List MemPlace) (hval : ∀ (j : Nat) t v, fn.params[j]? = some t → args[j]? = some v → Value.okWide P W .any base t v)
    (hW : DataW.Whole enc P fn.params.toList s.vars false W args.toList ds gs before) : Calls P f args W fun e W' => ∃ v, e = .returned v ∧ s.post enc P fn false true false false W args v W' := by
  have hW' := hW
  obtain ⟨p, q, hA, hV, rfl, hfz, hnd⟩ := hW
  rw [hvars] at hV
  obtain ⟨rfl, rfl⟩ := trodVars_none hV
  obtain ⟨A, hty, hBR⟩ := trodAll_ty hsh hA (r := .any) (b := base) fun j t v ht hv => hval j t v (by simpa using ht) (by simpa using hv)
  obtain ⟨A', hS⟩ := hS A hty
  refine (hS W (Rb W) args.toList [] hBR (by simp [Disj]) (fun b hb => hb) (fun b o _ ⟨r, hr, _⟩ => by simp at hr)).mono ?_
  rintro e W' ⟨v, R', o1, o2, rfl, r1, _, _, _, _, _, _, hfr⟩
  unfold BR at r1
  obtain ⟨rfl, _⟩ := r1
  have bel := below_of_fr hfr
  have hlen : ds.length = fn.params.toList.length := by
    have : ∀ {ts : List TypeId} {vs : List Value} {ds : List (DataW H)} {q : List MemPlace}, DataW.TrodAll enc P W 0 (fun _ => true) true ts vs ds q → ds.length = ts.length := by
      intro ts
      induction ts with
      | nil => intro vs ds q h; cases vs <;> cases ds <;> simp [DataW.TrodAll] at h ⊢
      | cons t ts ih =>
        intro vs ds q h
        obtain ⟨v, vs', d, ds', p1, p2, rfl, rfl, rfl, h1, h2⟩ := trodAll_cons h
        simp [ih h2]
    exact this hA
  refine ⟨_, rfl, ds, [], p ++ [], [], p, [], hW', ?_, ?_, ?_, bel.frame _, fun h => by cases h⟩
  · rw [List.append_nil, hspec ds hlen, hres]
    exact trodAll_mk1 (shut_bool hb _)
  · rw [List.append_nil, hspec ds hlen]
    exact trodAll_below hl bel hread hA
  · rw [List.append_nil, hspec ds hlen, hvars]
    rfl
end
end Go.Lift
