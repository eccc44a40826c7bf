/- What is handed to a law, as trees. -/
import Derived.Test.YthekbbgpmiogdaaLZ4
import Derived.ChangeArms
import Derived.ChangeShapes
import Derived.ChangeOld
import Derived.Carry
import Derived.Below
import Derived.OpenShut
import Derived.DataElems
namespace Go.Lift
open Go Go.RowKit Go.ChangeShapes

/-- cells of a type -/
inductive Sh where
  | int (k : IntKind)
  | bool
  | str
  | row (es : List Sh)
mutual
def Ty : Sh → IV → Prop
  | .int k, x => ∃ n, x = .v (.int k n) ∧ (Lit.int k n).wf = true
  | .bool, x => ∃ b, x = .v (.bool b)
  | .str, x => ∃ s, x = .v (.string s) ∧ s.size ≤ maxLen
  | .row es, x => ∃ elems : List (List IV), x = .tr elems.length elems.flatten ∧ elems.length ≤ maxLen ∧ ∀ c ∈ elems, Tyl es c
def Tyl : List Sh → List IV → Prop
  | [], xs => xs = []
  | s :: ss, xs => ∃ y ys, xs = y :: ys ∧ Ty s y ∧ Tyl ss ys
end
theorem Tyl.length : ∀ {ss : List Sh} {xs : List IV}, Tyl ss xs → xs.length = ss.length
  | [], xs, h => by unfold Tyl at h; subst h; rfl
  | s :: ss, xs, h => by unfold Tyl at h; obtain ⟨y, ys, rfl, _, h⟩ := h; simp [h.length]
theorem Tyl.one {s : Sh} {x : IV} (h : Ty s x) : Tyl [s] [x] := by
  unfold Tyl; exact ⟨x, [], rfl, h, by unfold Tyl; rfl⟩
theorem Tyl.append : ∀ {s1 s2 : List Sh} {x1 x2 : List IV}, Tyl s1 x1 → Tyl s2 x2 → Tyl (s1 ++ s2) (x1 ++ x2)
  | [], s2, x1, x2, h1, h2 => by unfold Tyl at h1; subst h1; exact h2
  | s :: s1, s2, x1, x2, h1, h2 => by
    unfold Tyl at h1; obtain ⟨y, ys, rfl, h, h1⟩ := h1
    simp only [List.cons_append]; unfold Tyl
    exact ⟨y, _, rfl, h, h1.append h2⟩

mutual
inductive ShT (P : Program) : TypeId → List Sh → Prop
  | int {t : TypeId} {k : IntKind} (h : P.underlying t = some (.int k)) : ShT P t [.int k]
  | bool {t : TypeId} (h : P.underlying t = some .bool) : ShT P t [.bool]
  | str {t : TypeId} (h : P.underlying t = some .string) : ShT P t [.str]
  | slice {t e : TypeId} {es : List Sh} (h : P.underlying t = some (.slice e)) (he : ShT P e es) (hz : P.cellsOf e = es.length) (hp : 0 < es.length) : ShT P t [.row es]
  | struct {t : TypeId} {fs : Array Field} {ss : List Sh} (h : P.underlying t = some (.struct fs)) (hf : ShF P fs.toList 0 ss) (hz : P.cellsOf t = ss.length) : ShT P t ss
inductive ShF (P : Program) : List Field → Nat → List Sh → Prop
  | nil {off : Nat} : ShF P [] off []
  | cons {f : Field} {fs : List Field} {off : Nat} {s1 s2 : List Sh} (ho : f.offset = off) (h : ShT P f.type s1) (hz : P.cellsOf f.type = s1.length) (hr : ShF P fs (off + s1.length) s2) : ShF P (f :: fs) off (s1 ++ s2)
end

section
variable {P : Program} {H : Type} {enc : TypeId × Value → H} {w : World} {base : Nat} {spare : Nat → Bool} {held : Bool}

theorem cells?_get {a : Addr} {n : Nat} {cs : List Value} (h : w.cells? base a n = some cs) : cs.length = n ∧ ∀ i, i < n → w.cell? (a.add i) = cs[i]? := by
  unfold World.cells? at h
  split at h
  · have hl := mapM_some_length h
    refine ⟨by simpa using hl, fun i hi => ?_⟩
    have := mapM_some_get h i i (by simp [hi])
    exact this
  · cases h

def Rb (w : World) : Nat → Prop := fun b => b < w.heap.size

theorem add_addr (a : Addr) (i : Nat) (h : a.spot = none) : a.add i = ⟨a.block, a.off + i, none⟩ := by
  cases a; simp only at h; subst h; unfold Addr.add; split <;> simp_all

theorem trod_ty : ∀ (fuel : Nat) (t : TypeId) (ss : List Sh) (cs : List Value) (x : DataW H × List MemPlace), ShT P t ss → DataW.trod enc P w base spare held fuel t cs = some x → ∃ xs : List IV, Tyl ss xs ∧ TRl (Rb w) w xs cs
  | 0, t, ss, cs, x, _, h => by simp [DataW.trod] at h
  | n + 1, t, ss, cs, x, hs, h => by
    cases hs with
    | int hu =>
      obtain ⟨k, rfl, _, hw⟩ := DataW.trod_int hu h
      exact ⟨[.v (.int _ k)], Tyl.one (by unfold Ty; exact ⟨k, rfl, hw⟩), by simp [TRl, TR, Value.oneCell']⟩
    | bool hu =>
      obtain ⟨b, rfl, _⟩ := DataW.trod_bool hu h
      exact ⟨[.v (.bool b)], Tyl.one (by unfold Ty; exact ⟨b, rfl⟩), by simp [TRl, TR, Value.oneCell']⟩
    | str hu =>
      obtain ⟨s, rfl, _, hm⟩ := DataW.trod_string hu h
      exact ⟨[.v (.string s)], Tyl.one (by unfold Ty; exact ⟨s, rfl, hm⟩), by simp [TRl, TR, Value.oneCell']⟩
    | @slice _ e es hu he hz hp =>
      rcases DataW.trod_slice hu h with ⟨rfl, _⟩ | ⟨a, len, cap, elems, rest, m, hm, rfl, _, _, hl, hc, hlen, hel, _⟩
      · exact ⟨[.tr 0 []], Tyl.one (by unfold Ty; exact ⟨[], rfl, Nat.zero_le _, by simp⟩), by simp [TRl, TR, Value.oneCell']⟩
      · cases hm
        have each : ∀ i, i < len → ∃ c : List IV, Tyl es c ∧ ∃ vs : List Value, vs.length = es.length ∧ (∀ j, j < es.length → w.cell? (a.add (i * es.length + j)) = vs[j]?) ∧ TRl (Rb w) w c vs := fun i hi => by
          have := hel i hi
          rw [List.getElem?_eq_getElem (show i < elems.length by omega)] at this
          obtain ⟨vs, h1, h2⟩ := Option.bind_eq_some_iff.1 this
          obtain ⟨c, g1, g2⟩ := trod_ty n e es vs _ he h2
          obtain ⟨q1, q2⟩ := cells?_get h1
          rw [hz] at q1
          refine ⟨c, g1, vs, q1, fun j hj => ?_, g2⟩
          have := q2 j (by rw [hz]; exact hj)
          rw [hz] at this
          rw [← this]
          rw [Addr.add_add]
        -- the elements
        have build : ∀ k, k ≤ len → ∃ L : List (List IV), L.length = k ∧ (∀ c ∈ L, Tyl es c) ∧ ∀ i x, L.flatten[i]? = some x → ∃ y, w.cell? (a.add i) = some y ∧ TR (Rb w) w x y ∧ y.oneCell' = true := by
          intro k
          induction k with
          | zero => intro _; exact ⟨[], rfl, by simp, by simp⟩
          | succ k ih =>
            intro hk
            obtain ⟨L, l1, l2, l3⟩ := ih (by omega)
            obtain ⟨c, c1, vs, c2, c3, c4⟩ := each k (by omega)
            have hLl : L.flatten.length = k * es.length := by
              rw [← l1]
              clear l3 l1 ih
              induction L with
              | nil => simp
              | cons c' L ih2 =>
                have := ih2 fun c hc => l2 c (by simp [hc])
                simp only [List.flatten_cons, List.length_append, List.length_cons, this, (l2 c' (by simp)).length]
                rw [Nat.add_mul]; omega
            refine ⟨L ++ [c], by simp [l1], fun c' hc' => ?_, fun i x hx => ?_⟩
            · rcases List.mem_append.1 hc' with h | h
              · exact l2 c' h
              · simp at h; subst h; exact c1
            · simp only [List.flatten_append, List.flatten_cons, List.flatten_nil, List.append_nil, List.getElem?_append, hLl] at hx
              split at hx
              · rename_i hi
                refine l3 i x ?_
                exact hx
              · rename_i hi
                obtain ⟨y, g1, g2, g3⟩ := c4.get _ x hx
                have hj : i - k * es.length < es.length := by have := (List.getElem?_eq_some_iff.1 hx).1; rw [c1.length] at this; exact this
                refine ⟨y, ?_, g2, g3⟩
                rw [← g1, ← c3 _ hj]
                congr 2
                omega
        obtain ⟨L, l1, l2, l3⟩ := build len (Nat.le_refl _)
        refine ⟨[.tr L.length L.flatten], Tyl.one (by unfold Ty; exact ⟨L, rfl, by omega, l2⟩), ?_⟩
        unfold TRl TRl
        refine ⟨_, _, rfl, ⟨?_, rfl⟩, rfl⟩
        unfold TR
        refine ⟨some a, cap, by rw [l1], by omega, ?_⟩
        by_cases hne : L.flatten = []
        · exact .inl hne
        · obtain ⟨x0, hx0⟩ : ∃ x0, L.flatten[0]? = some x0 := ⟨L.flatten[0]'(List.length_pos_iff.2 hne), List.getElem?_eq_getElem _⟩
          obtain ⟨y0, g1, _, _⟩ := l3 0 x0 hx0
          have hsp : a.spot = none := by have := World.cell?_spot g1; simpa [Addr.add] using this
          have hlt : a.block < w.heap.size := by
            have : w.cell? (a.add 0) = some y0 := g1
            rw [add_addr a 0 hsp] at this
            unfold World.cell? at this
            rcases Nat.lt_or_ge a.block w.heap.size with h | h
            · exact h
            · rw [Array.getElem?_eq_none h] at this; simp at this
          refine .inr ⟨a.block, a.off, by cases a; simp_all, hlt, TRm.of_get fun i x hx => ?_⟩
          obtain ⟨y, g1, g2⟩ := l3 i x hx
          exact ⟨y, by rw [← add_addr a i hsp]; exact g1, g2⟩
    | @struct _ fs _ hu hf hz =>
      obtain ⟨ys, m, hm, _, hl, hlen, hfs⟩ := DataW.trod_struct hu h
      cases hm
      have go : ∀ (gs : List Field) (off : Nat) (s : List Sh), ShF P gs off s → (∀ f ∈ gs, ∃ y, DataW.trod enc P w base spare held n f.type ((cs.drop f.offset).take (P.cellsOf f.type)) = some y) → ∃ xs : List IV, Tyl s xs ∧ TRl (Rb w) w xs ((cs.drop off).take s.length) := by
        intro gs
        induction gs with
        | nil => intro off s hs _; cases hs; exact ⟨[], by simp [Tyl], by simp [TRl]⟩
        | cons f gs ih =>
          intro off s hs hh
          cases hs with
          | cons ho hT hz' hr =>
            rename_i s1 s2
            obtain ⟨y, hy⟩ := hh f (by simp)
            obtain ⟨x1, e1, e2⟩ := trod_ty n f.type s1 _ _ hT hy
            obtain ⟨x2, e3, e4⟩ := ih _ _ hr fun f' hf' => hh f' (by simp [hf'])
            refine ⟨x1 ++ x2, e1.append e3, ?_⟩
            have : (cs.drop off).take (s1 ++ s2).length = (cs.drop off).take s1.length ++ (cs.drop (off + s1.length)).take s2.length := by
              rw [List.length_append, List.take_add, List.drop_drop]
            rw [this]
            subst ho
            rw [hz'] at e2
            exact e2.append e4
      obtain ⟨xs, g1, g2⟩ := go fs.toList 0 ss hf fun f hf' => by
        obtain ⟨i, hi, he⟩ := List.getElem_of_mem hf'
        have := hfs i f (by rw [Array.getElem?_eq_getElem (by simpa using hi)]; simpa using he)
        rw [List.getElem?_eq_getElem (show i < ys.length by rw [hlen]; simpa using hi)] at this
        exact ⟨_, this⟩
      refine ⟨xs, g1, ?_⟩
      rw [List.drop_zero, ← hz, ← hl, List.take_length] at g2
      exact g2
end
end Go.Lift
