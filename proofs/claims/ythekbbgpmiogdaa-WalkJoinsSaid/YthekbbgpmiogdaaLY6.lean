/- Rows of structs, as cells; what a law is handed. -/
import Derived.Test.YthekbbgpmiogdaaLY5
namespace Go.Lift
open Go Go.RowKit

/-- the cells of a row of things -/
def encs {α : Type} (f : α → List IV) (l : List α) : List IV := (l.map f).flatten
section
variable {α : Type} {f : α → List IV} {n : Nat}
theorem encs_nil : encs f [] = [] := rfl
theorem encs_cons (a : α) (l : List α) : encs f (a :: l) = f a ++ encs f l := rfl
theorem encs_append (l r : List α) : encs f l ++ encs f r = encs f (l ++ r) := by simp [encs]
theorem encs_snoc (l : List α) (a : α) : encs f l ++ f a = encs f (l ++ [a]) := by simp [encs]
theorem encs_length (hf : ∀ a, (f a).length = n) (l : List α) : (encs f l).length = l.length * n := by
  induction l with
  | nil => simp [encs]
  | cons a l ih => rw [encs_cons, List.length_append, ih, hf, List.length_cons, Nat.succ_mul, Nat.add_comm]
theorem encs_take (hf : ∀ a, (f a).length = n) (l : List α) (k : Nat) : (encs f l).take (k * n) = encs f (l.take k) := by
  induction l generalizing k with
  | nil => simp [encs]
  | cons a l ih =>
    cases k with
    | zero => simp [encs]
    | succ k =>
      rw [encs_cons, List.take_succ_cons, encs_cons, List.take_append, hf, Nat.succ_mul, Nat.add_sub_cancel, ih]
      rw [List.take_of_length_le (by rw [hf]; omega)]
theorem encs_drop (hf : ∀ a, (f a).length = n) (l : List α) (k : Nat) : (encs f l).drop (k * n) = encs f (l.drop k) := by
  induction l generalizing k with
  | nil => simp [encs]
  | cons a l ih =>
    cases k with
    | zero => simp
    | succ k =>
      rw [encs_cons, List.drop_succ_cons, List.drop_append, hf, Nat.succ_mul, Nat.add_sub_cancel, ih]
      rw [List.drop_eq_nil_of_le (by rw [hf]; omega)]; rfl
theorem encs_take_all (hf : ∀ a, (f a).length = n) (l : List α) : (encs f l).take (l.length * n) = encs f l := by rw [encs_take hf, List.take_length]
theorem encs_cut (hf : ∀ a, (f a).length = n) (l : List α) (o m : Nat) : cut (encs f l) o m n = encs f ((l.drop o).take m) := by
  unfold cut; rw [encs_drop hf, encs_take hf]
theorem encs_at (hf : ∀ a, (f a).length = n) {l : List α} {k : Nat} {a : α} (h : l[k]? = some a) : ((encs f l).drop (k * n)).take n = f a := by
  have := encs_cut hf l k 1
  unfold cut at this
  rw [Nat.one_mul] at this
  rw [this]
  have hd : (l.drop k).take 1 = [a] := by
    have hk := (List.getElem?_eq_some_iff.1 h).1
    rw [List.drop_eq_getElem_cons hk]
    have := (List.getElem?_eq_some_iff.1 h).2
    simp [this]
  rw [hd]; simp [encs]
theorem encs_get (hf : ∀ a, (f a).length = n) {l : List α} {k j : Nat} {a : α} (h : l[k]? = some a) (hj : j < n) : (encs f l)[k * n + j]? = (f a)[j]? := by
  rw [← encs_at hf h, List.getElem?_take, if_pos hj, List.getElem?_drop]
theorem encs_le (hf : ∀ a, (f a).length = n) {l : List α} {k : Nat} {a : α} (h : l[k]? = some a) : k * n + n ≤ (encs f l).length := by
  rw [encs_length hf, ← Nat.succ_mul]; exact Nat.mul_le_mul_right n (List.getElem?_eq_some_iff.1 h).1
theorem encs_ne (hf : ∀ a, (f a).length = n) (hn : 0 < n) {l : List α} {k : Nat} {a : α} (h : l[k]? = some a) : encs f l ≠ [] := by
  intro e
  have := encs_le hf h
  rw [e] at this
  simp at this; omega
theorem encs_all {p : IV → Bool} (h : ∀ a, (f a).all p = true) (l : List α) : (encs f l).all p = true := by
  induction l with
  | nil => rfl
  | cons a l ih => rw [encs_cons, List.all_append, h, ih]; rfl
theorem noTrl_all : ∀ (xs : List IV), xs.all isV = true → noTrl xs = true
  | [], _ => by simp [noTrl]
  | x :: xs, h => by
    rw [List.all_cons, Bool.and_eq_true] at h
    cases x <;> first | (cases h.1; done) | skip
    simp only [noTrl, noTr, Bool.true_and]
    exact noTrl_all xs h.2
theorem encs_noTr (h : ∀ a, (f a).all isV = true) (l : List α) : noTrl (encs f l) = true := noTrl_all _ (encs_all h l)
/-- one cell of one thing, written -/
theorem encs_set (hf : ∀ a, (f a).length = n) {l : List α} {k j : Nat} {a b : α} {x : IV} (h : l[k]? = some a) (hj : j < n) (hb : (f a).set j x = f b) : (encs f l).set (k * n + j) x = encs f (l.set k b) := by
  induction l generalizing k with
  | nil => simp at h
  | cons c l ih =>
    cases k with
    | zero =>
      simp at h; subst h
      simp only [Nat.zero_mul, Nat.zero_add, encs_cons, List.set_cons_zero]
      rw [List.set_append_left _ _ (by rw [hf]; exact hj), hb]
    | succ k =>
      simp only [encs_cons, List.set_cons_succ]
      rw [List.set_append_right _ _ (by rw [hf, Nat.succ_mul]; omega), hf, Nat.succ_mul, show k * n + n + j - n = k * n + j by omega, ih (by simpa using h)]
end

theorem encs_all_p {α : Type} {f : α → List IV} {p : IV → Bool} (h : ∀ a, (f a).all p = true) (l : List α) : (encs f l).all p = true := encs_all h l
/-- things that all have n cells, plain values -/
class Cells {α : Type} (f : α → List IV) (n : outParam Nat) : Prop where
  len : ∀ a, (f a).length = n
  isV : ∀ a, (f a).all isV = true
  tree : ∀ a, (f a).all isTree = true
section
variable {α : Type} {f : α → List IV} {n : Nat} [h : Cells f n]
include h
@[go_sem] theorem cells_take (l : List α) (k : Nat) : (encs f l).take (k * n) = encs f (l.take k) := encs_take h.len l k
@[go_sem] theorem cells_length (l : List α) : (encs f l).length = l.length * n := encs_length h.len l
@[go_sem] theorem cells_noTr (l : List α) : noTrl (encs f l) = true := encs_noTr h.isV l
@[go_sem] theorem cells_isV (l : List α) : (encs f l).all Lift.isV = true := encs_all h.isV l
@[go_sem] theorem cells_isTree (l : List α) : (encs f l).all isTree = true := encs_all h.tree l
@[go_sem] theorem cells_len1 (a : α) : (f a).length = n := h.len a
end
attribute [go_sem] Int.natCast_nonneg implies_true encs_nil List.take_length
/-! ### what a law is handed -/
theorem wf_u8 {n : Int} (h : (Lit.int .u8 n).wf = true) : 0 ≤ n ∧ n ≤ 255 := by have := u8_wf h; omega
theorem wf_bounds {k : IntKind} {n : Int} (h : (Lit.int k n).wf = true) : k.min ≤ n ∧ n ≤ k.max := by
  simpa [Lit.wf] using h
theorem wf_u16 {n : Int} (h : (Lit.int .u16 n).wf = true) : 0 ≤ n ∧ n ≤ 65535 := wf_bounds h
theorem wf_u32 {n : Int} (h : (Lit.int .u32 n).wf = true) : 0 ≤ n ∧ n ≤ 4294967295 := wf_bounds h
theorem wf_u64 {n : Int} (h : (Lit.int .u64 n).wf = true) : 0 ≤ n ∧ n ≤ 18446744073709551615 := wf_bounds h
theorem wf_i64 {n : Int} (h : (Lit.int .i64 n).wf = true) : -9223372036854775808 ≤ n ∧ n ≤ 9223372036854775807 := wf_bounds h
theorem row_of {α : Type} {f : α → List IV} {es : List Sh} {good : α → Prop} (hd : ∀ c, Tyl es c → ∃ a, c = f a ∧ good a) {x : IV} (h : Ty (.row es) x) : ∃ l : List α, x = .tr l.length (encs f l) ∧ l.length ≤ maxLen ∧ ∀ a ∈ l, good a := by
  unfold Ty at h
  obtain ⟨elems, rfl, h1, h2⟩ := h
  have : ∀ (es' : List (List IV)), (∀ c ∈ es', Tyl es c) → ∃ l : List α, l.length = es'.length ∧ es'.flatten = encs f l ∧ ∀ a ∈ l, good a := by
    intro es'
    induction es' with
    | nil => intro _; exact ⟨[], rfl, rfl, by simp⟩
    | cons c cs ih =>
      intro h
      obtain ⟨l, g1, g2, g3⟩ := ih fun c hc => h c (by simp [hc])
      obtain ⟨a, rfl, ha⟩ := hd c (h c (by simp))
      exact ⟨a :: l, by simp [g1], by rw [List.flatten_cons, g2, encs_cons], by simp; exact ⟨ha, g3⟩⟩
  obtain ⟨l, g1, g2, g3⟩ := this elems h2
  exact ⟨l, by rw [g1, g2], by omega, g3⟩
theorem Tyl.cons_inv {s : Sh} {ss : List Sh} {xs : List IV} (h : Tyl (s :: ss) xs) : ∃ y ys, xs = y :: ys ∧ Ty s y ∧ Tyl ss ys := by unfold Tyl at h; exact h
theorem Tyl.nil_inv {xs : List IV} (h : Tyl [] xs) : xs = [] := by unfold Tyl at h; exact h
theorem Ty.int_inv {k : IntKind} {x : IV} (h : Ty (.int k) x) : ∃ n, x = .v (.int k n) ∧ (Lit.int k n).wf = true := by unfold Ty at h; exact h
theorem Ty.str_inv {x : IV} (h : Ty .str x) : ∃ s : ByteArray, x = .v (.string s) ∧ s.size ≤ maxLen := by unfold Ty at h; exact h
theorem Ty.bool_inv {x : IV} (h : Ty .bool x) : ∃ b, x = .v (.bool b) := by unfold Ty at h; exact h
theorem row_ints {k : IntKind} {x : IV} (h : Ty (.row [.int k]) x) : ∃ l : List Int, x = .tr l.length (l.map fun a => .v (.int k a)) ∧ l.length ≤ maxLen ∧ ∀ a ∈ l, (Lit.int k a).wf = true := by
  obtain ⟨l, h1, h2, h3⟩ := row_of (f := fun a => [.v (.int k a)]) (good := fun a => (Lit.int k a).wf = true) (fun c hc => by
    obtain ⟨y, ys, rfl, h1, h2⟩ := hc.cons_inv
    obtain rfl := h2.nil_inv
    obtain ⟨n, rfl, hn⟩ := h1.int_inv
    exact ⟨n, rfl, hn⟩) h
  refine ⟨l, ?_, h2, h3⟩
  rw [h1]
  congr 1
  have : ∀ l : List Int, encs (fun a => [IV.v (.int k a)]) l = l.map fun a => .v (.int k a) := fun l => by
    induction l with
    | nil => rfl
    | cons a l ih => rw [encs_cons, ih]; rfl
  exact this l
end Go.Lift
