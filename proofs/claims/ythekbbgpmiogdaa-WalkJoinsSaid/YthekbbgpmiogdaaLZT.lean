/- Types: how an entry of the table is proved; equality of structs. -/
import Derived.Test.YthekbbgpmiogdaaLZS
import Derived.Laws.StructEq
namespace Go.Lift
open Go Go.RowKit

section
variable {P : Program}

def ScEq (P : Program) (m : Nat) (t : TypeId) (k : CK) : Prop := ∀ d (w : World) x y r, m ≤ d → eqVals [k] [x] [y] = some r → (Op.equalIn d t x y).run P w = .ok r w
def EqTy (P : Program) (m : Nat) (t : TypeId) (ks : List CK) : Prop := ∀ d (w : World) (ax ay : Array Value) r, m ≤ d → eqVals ks ax.toList ay.toList = some r → (Op.equalIn d t (.agg ax) (.agg ay)).run P w = .ok r w
inductive FEq (P : Program) (m : Nat) : List Field → Nat → List CK → Prop
  | nil {off : Nat} : FEq P m [] off []
  | one {f : Field} {fs : List Field} {off : Nat} {k : CK} {ks : List CK} {d : TypeDesc} (hn : (f.name == "_") = false) (ho : f.offset = off) (hd : P.underlying f.type = some d) (hA : isAggD d = false)
      (h : ScEq P m f.type k) (rest : FEq P m fs (off + 1) ks) : FEq P m (f :: fs) off (k :: ks)
  | sub {f : Field} {fs : List Field} {off : Nat} {ks1 ks : List CK} {gs : Array Field} (hn : (f.name == "_") = false) (ho : f.offset = off) (hd : P.underlying f.type = some (.struct gs)) (hz : (P.info? f.type).map (·.size) = some ks1.length)
      (h : EqTy P m f.type ks1) (rest : FEq P m fs (off + ks1.length) ks) : FEq P m (f :: fs) off (ks1 ++ ks)

theorem eqVals_append : ∀ {ks1 ks : List CK} {xs ys : List Value} {r : Bool}, eqVals (ks1 ++ ks) xs ys = some r → ∃ r1 r2, eqVals ks1 (xs.take ks1.length) (ys.take ks1.length) = some r1 ∧ eqVals ks (xs.drop ks1.length) (ys.drop ks1.length) = some r2 ∧ r = (r1 && r2)
  | [], ks, xs, ys, r, h => ⟨true, r, by simp [eqVals], by simpa using h, by simp⟩
  | k :: ks1, ks, xs, ys, r, h => by
    have rec' := @eqVals_append ks1 ks
    cases xs with
    | nil => cases k <;> simp [eqVals] at h
    | cons x xs =>
    cases ys with
    | nil => cases k <;> cases x <;> simp [eqVals] at h
    | cons y ys =>
    by_cases hk : k = .complex
    · subst hk
      obtain ⟨a, b, c, d, r', rfl, rfl, h1, rfl⟩ := eqVals_complex h
      obtain ⟨r1, r2, g1, g2, rfl⟩ := rec' h1
      exact ⟨_, r2, by simp only [List.length_cons, List.take_succ_cons, eqVals, g1, Option.map_some]; rfl, by simpa using g2, by simp [Bool.and_assoc]⟩
    cases k <;> first | exact absurd rfl hk | skip
    all_goals cases x <;> try (simp [eqVals] at h; done)
    all_goals cases y <;> try (simp [eqVals] at h; done)
    · simp only [List.cons_append, eqVals, Option.ite_none_right_eq_some, Option.map_eq_some_iff] at h
      obtain ⟨hk, r', h1, rfl⟩ := h
      obtain ⟨r1, r2, g1, g2, rfl⟩ := rec' h1
      exact ⟨_, r2, by simp only [List.length_cons, List.take_succ_cons, eqVals, if_pos hk, g1, Option.map_some]; rfl, by simpa using g2, by simp [Bool.and_assoc]⟩
    · simp only [List.cons_append, eqVals, Option.map_eq_some_iff] at h
      obtain ⟨r', h1, rfl⟩ := h
      obtain ⟨r1, r2, g1, g2, rfl⟩ := rec' h1
      exact ⟨_, r2, by simp only [List.length_cons, List.take_succ_cons, eqVals, g1, Option.map_some]; rfl, by simpa using g2, by simp [Bool.and_assoc]⟩
    · simp only [List.cons_append, eqVals, Option.map_eq_some_iff] at h
      obtain ⟨r', h1, rfl⟩ := h
      obtain ⟨r1, r2, g1, g2, rfl⟩ := rec' h1
      exact ⟨_, r2, by simp only [List.length_cons, List.take_succ_cons, eqVals, g1, Option.map_some]; rfl, by simpa using g2, by simp [Bool.and_assoc]⟩
theorem eqVals_length : ∀ {ks : List CK} {xs ys : List Value} {r : Bool}, eqVals ks xs ys = some r → xs.length = ks.length ∧ ys.length = ks.length
  | [], xs, ys, r, h => by cases xs <;> cases ys <;> simp [eqVals] at h ⊢
  | k :: ks, xs, ys, r, h => by
    cases xs with
    | nil => cases k <;> simp [eqVals] at h
    | cons x xs =>
    cases ys with
    | nil => cases k <;> cases x <;> simp [eqVals] at h
    | cons y ys =>
    by_cases hk : k = .complex
    · subst hk
      obtain ⟨a, b, c, d, r', rfl, rfl, h1, rfl⟩ := eqVals_complex h
      have := eqVals_length h1
      simp; exact this
    cases k <;> first | exact absurd rfl hk | skip
    all_goals cases x <;> try (simp [eqVals] at h; done)
    all_goals cases y <;> try (simp [eqVals] at h; done)
    all_goals simp only [eqVals, Option.ite_none_right_eq_some, Option.map_eq_some_iff] at h
    · obtain ⟨_, r', h1, _⟩ := h; have := eqVals_length h1; simp; exact this
    · obtain ⟨r', h1, _⟩ := h; have := eqVals_length h1; simp; exact this
    · obtain ⟨r', h1, _⟩ := h; have := eqVals_length h1; simp; exact this

theorem eqf_cons' {d : Nat} {xs ys : Array Value} {f : Field} {fs : List Field} {a b : Value} {r s : Bool} {w : World} (hn : (f.name == "_") = false) (ha : (part f.type xs f.offset).run P w = .ok a w) (hb : (part f.type ys f.offset).run P w = .ok b w) (he : (Op.equalIn d f.type a b).run P w = .ok r w) (hr : (Op.eqFields d xs ys fs).run P w = .ok s w) : (Op.eqFields d xs ys (f :: fs)).run P w = .ok (r && s) w := by
  have hn' : f.name ≠ "_" := by simpa using hn
  rw [Op.eqFields]
  simp only [if_pos hn', Sem.run_bind, ha, hb, he, Result.andThen_ok]
  cases r
  · simp
  · simpa using hr
theorem isAgg_run' {t : TypeId} {d : TypeDesc} {w : World} (hd : P.underlying t = some d) : (isAgg t).run P w = .ok (isAggD d) w := by
  unfold isAgg
  simp only [Sem.run_bind, run_underlying hd, Result.andThen_ok]
  cases d <;> rfl
theorem eqFields_run {m : Nat} : ∀ {fs : List Field} {off : Nat} {ks : List CK}, FEq P m fs off ks → ∀ {d : Nat} {w : World} {ax ay : Array Value} {r : Bool}, m ≤ d → eqVals ks (ax.toList.drop off) (ay.toList.drop off) = some r → (Op.eqFields d ax ay fs).run P w = .ok r w := by
  intro fs off ks h
  induction h with
  | nil =>
    intro d w ax ay r _ h
    have := eqVals_length h
    obtain ⟨h1, h2⟩ := this
    rw [List.eq_nil_of_length_eq_zero h1, List.eq_nil_of_length_eq_zero h2] at h
    simp [eqVals] at h; subst h
    simp [Op.eqFields]
  | @one f fs off k ks dd hn ho hd hA hs rest ih =>
    intro d w ax ay r hm h
    obtain ⟨r1, r2, g1, g2, rfl⟩ := eqVals_append (ks1 := [k]) (by simpa using h)
    obtain ⟨l1, l2⟩ := eqVals_length g1
    simp only [List.length_singleton] at l1 l2 g1 g2
    obtain ⟨x, hx⟩ : ∃ x, ax[off]? = some x := by
      have : 0 < (ax.toList.drop off).length := by rw [List.length_take] at l1; omega
      exact ⟨ax[off]'(by simp at this; omega), by rw [Array.getElem?_eq_getElem]⟩
    obtain ⟨y, hy⟩ : ∃ y, ay[off]? = some y := by
      have : 0 < (ay.toList.drop off).length := by rw [List.length_take] at l2; omega
      exact ⟨ay[off]'(by simp at this; omega), by rw [Array.getElem?_eq_getElem]⟩
    have tx : (ax.toList.drop off).take 1 = [x] := by
      have : (ax.toList.drop off)[0]? = some x := by rw [List.getElem?_drop]; simpa using hx
      cases hl : ax.toList.drop off with
      | nil => rw [hl] at this; cases this
      | cons z zs => rw [hl] at this; simp at this; simp [this]
    have ty : (ay.toList.drop off).take 1 = [y] := by
      have : (ay.toList.drop off)[0]? = some y := by rw [List.getElem?_drop]; simpa using hy
      cases hl : ay.toList.drop off with
      | nil => rw [hl] at this; cases this
      | cons z zs => rw [hl] at this; simp at this; simp [this]
    rw [tx, ty] at g1
    rw [List.drop_drop, List.drop_drop] at g2
    subst ho
    exact eqf_cons' hn (by simp [part, isAgg_run' hd, hA, hx]) (by simp [part, isAgg_run' hd, hA, hy]) (hs d w x y r1 hm g1) (ih hm g2)
  | @sub f fs off ks1 ks gs hn ho hd hz hs rest ih =>
    intro d w ax ay r hm h
    obtain ⟨r1, r2, g1, g2, rfl⟩ := eqVals_append h
    rw [List.drop_drop, List.drop_drop] at g2
    subst ho
    obtain ⟨i, hi, hsz⟩ := Option.map_eq_some_iff.1 hz
    have hsize : (sizeOf f.type).run P w = .ok ks1.length w := by simp [sizeOf, typeInfo, hi, hsz]
    have e : ∀ a : Array Value, (a.extract f.offset (f.offset + ks1.length)).toList = (a.toList.drop f.offset).take ks1.length := fun a => by simp [List.extract_eq_take_drop]
    refine eqf_cons' hn (a := .agg (ax.extract f.offset (f.offset + ks1.length))) (b := .agg (ay.extract f.offset (f.offset + ks1.length))) ?_ ?_ (hs d w _ _ r1 hm (by rw [e, e]; exact g1)) (ih hm g2)
    · simp [part, isAgg_run' hd, isAggD, hsize]
    · simp [part, isAgg_run' hd, isAggD, hsize]
theorem eqTy_struct {m : Nat} {t : TypeId} {fs : Array Field} {ks : List CK} (hu : P.underlying t = some (.struct fs)) (hp : P.stoodInHeld t = false) (h : FEq P m fs.toList 0 ks) : EqTy P (m + 1) t ks := by
  intro d w ax ay r hm hr
  obtain ⟨d, rfl⟩ : ∃ d', d = d' + 1 := ⟨d - 1, by omega⟩
  have hf : P.fieldsOf t = fs := by simp [Program.fieldsOf, hu]
  rw [run_equalIn_struct (P := P) w d t ax ay (by rw [hf]; exact hu) hp, hf]
  exact eqFields_run h (by omega) (by simpa using hr)
theorem scEq_int {t : TypeId} {k : IntKind} (m : Nat) (hu : P.underlying t = some (.int k)) : ScEq P (m + 1) t (.int k) := by
  intro d w x y r hm h
  obtain ⟨d, rfl⟩ : ∃ d', d = d' + 1 := ⟨d - 1, by omega⟩
  cases x <;> cases y <;> simp [eqVals] at h
  obtain ⟨⟨rfl, rfl⟩, h⟩ := h
  subst h
  simp [Op.equalIn, run_underlying hu]
theorem scEq_bool {t : TypeId} (m : Nat) (hu : P.underlying t = some .bool) : ScEq P (m + 1) t .bool := by
  intro d w x y r hm h
  obtain ⟨d, rfl⟩ : ∃ d', d = d' + 1 := ⟨d - 1, by omega⟩
  cases x <;> cases y <;> simp [eqVals] at h
  subst h
  simp [Op.equalIn, run_underlying hu]
theorem scEq_str {t : TypeId} (m : Nat) (hu : P.underlying t = some .string) : ScEq P (m + 1) t .str := by
  intro d w x y r hm h
  obtain ⟨d, rfl⟩ : ∃ d', d = d' + 1 := ⟨d - 1, by omega⟩
  cases x <;> cases y <;> simp [eqVals] at h
  subst h
  exact run_equalIn_string w d t _ _ hu
theorem scEq_complex {t : TypeId} (m : Nat) (hu : P.underlying t = some (.complex .f64)) : ScEq P (m + 1) t .complex := by
  intro d w x y r hm h
  obtain ⟨d, rfl⟩ : ∃ d', d = d' + 1 := ⟨d - 1, by omega⟩
  obtain ⟨a, b, c, e, r', rfl, rfl, h1, rfl⟩ := eqVals_complex h
  simp [eqVals] at h1
  subst h1
  simp [Op.equalIn, run_underlying hu, feq, Op.floatEq]
theorem EqTy.up {m m' : Nat} {t : TypeId} {ks : List CK} (h : EqTy P m t ks) (hm : m ≤ m') : EqTy P m' t ks := fun d w ax ay r hd hr => h d w ax ay r (by omega) hr
theorem eqk_flat {m : Nat} {t : TypeId} {ks : List CK} (hg : P.eqGuardType P.depth t = false) (hm : m ≤ Op.maxDepth) (h : EqTy P m t ks) : ∀ ks', (some ks : Option (List CK)) = some ks' → P.eqGuardType P.depth t = false ∧ ∀ (w : World) (ax ay : Array Value) (r : Bool), eqVals ks' ax.toList ay.toList = some r → (Op.equalIn Op.maxDepth t (.agg ax) (.agg ay)).run P w = .ok r w := by
  intro ks' e
  cases e
  exact ⟨hg, fun w ax ay r hr => h _ w ax ay r hm hr⟩

theorem TIok.mk' {t : TypeId} {i : TI} {z : Value} (h1 : (P.info? t).map (fun j => (j.zero, j.size, j.bytes)) = some (some z, i.size, i.bytes)) (hz : zOk i.zero z.cells.toList) (hl : i.zero.length = i.size) (hp : 0 < i.size) {d : TypeDesc} (hd : P.underlying t = some d) (hdo : DescOk i.desc d)
    (hA : isAggD d = i.isA) (hn : ∀ k, i.num = some k → P.underlying t = some (.int k))
    (he : ∀ ks, i.eqk = some ks → P.eqGuardType P.depth t = false ∧ ∀ (w : World) (ax ay : Array Value) (r : Bool), eqVals ks ax.toList ay.toList = some r → (Op.equalIn Op.maxDepth t (.agg ax) (.agg ay)).run P w = .ok r w) : TIok P t i := by
  obtain ⟨j, hj, e⟩ := Option.map_eq_some_iff.1 h1
  simp only [Prod.mk.injEq] at e
  exact ⟨⟨j, hj, e.2.1, e.2.2, z, e.1, hz⟩, hn, hl, hp, ⟨d, hd, hdo, hA⟩, he⟩
end
end Go.Lift
