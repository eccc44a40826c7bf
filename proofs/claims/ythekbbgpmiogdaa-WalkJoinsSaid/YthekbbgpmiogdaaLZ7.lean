/- Bytes, as cells. -/
import Derived.Test.YthekbbgpmiogdaaLZ6
import Derived.IntWalk
import Derived.DataShut
namespace Go.Lift
open Go Go.RowKit

def bcells (l : List UInt8) : List IV := l.map fun b => .v (.int .u8 (b.toNat : Int))
def b8 (e : Int) : UInt8 := UInt8.ofNat (IntKind.u8.wrap e).toNat
theorem b8_toNat (e : Int) : ((b8 e).toNat : Int) = IntKind.u8.wrap e := by
  have h : 0 ≤ IntKind.u8.wrap e ∧ IntKind.u8.wrap e < 256 := by rw [IntKind.wrap_u8]; omega
  unfold b8
  rw [UInt8.toNat_ofNat']
  omega
theorem bcells_length (l : List UInt8) : (bcells l).length = l.length := by simp [bcells]
theorem bcells_isV (l : List UInt8) : (bcells l).all isV = true := by simp [bcells, isV]
theorem bcells_isTree (l : List UInt8) : (bcells l).all isTree = true := by simp [bcells, isTree, Value.oneCell']
theorem bcells_take (l : List UInt8) (n : Nat) : (bcells l).take n = bcells (l.take n) := by simp [bcells, List.map_take]
theorem bcells_drop (l : List UInt8) (n : Nat) : (bcells l).drop n = bcells (l.drop n) := by simp [bcells, List.map_drop]
theorem bcells_append (l r : List UInt8) : bcells l ++ bcells r = bcells (l ++ r) := by simp [bcells]
theorem bcells_cut (l : List UInt8) (o n : Nat) : cut (bcells l) o n 1 = bcells ((l.drop o).take n) := by simp [cut, bcells, List.map_take, List.map_drop]
theorem bytes_bcells : ∀ (l : List UInt8), bytesOfCells (bcells l) = some l
  | [] => rfl
  | b :: l => by
    have := bytes_bcells l
    simp only [bcells, List.map_cons, bytesOfCells] at this ⊢
    rw [this]; simp
theorem bcells_get {l : List UInt8} {i : Nat} {b : UInt8} (h : l[i]? = some b) : (bcells l)[i]? = some (.v (.int .u8 (b.toNat : Int))) := by simp [bcells, h]
theorem bcells_ne {l : List UInt8} {i : Nat} {b : UInt8} (h : l[i]? = some b) : bcells l ≠ [] := by intro e; simp [bcells] at e; subst e; simp at h
theorem noTr_bcells (l : List UInt8) : noTrl (bcells l) = true := by
  induction l with
  | nil => rfl
  | cons b l ih => simpa [bcells, noTrl, noTr] using ih
theorem take_length_self {α : Type} (l : List α) : l.take l.length = l := List.take_length
/-- a nil slice is a slice of no element -/
theorem TR.emp {R : Nat → Prop} {w : World} {y : Value} (h : TR R w .emp y) : TR R w (.tr 0 []) y := by
  unfold TR at h ⊢
  obtain ⟨a, rfl⟩ := h
  exact ⟨a, 0, rfl, Nat.le_refl _, .inl rfl⟩
theorem SCall.weakA {P : Program} {f : FuncId} {A A2 A' : List IV} {r : IV} (h : SCall P f A r A') (hw : ∀ R w vals os, BRl P R w A2 vals os → BRl P R w A vals os) : SCall P f A2 r A' :=
  fun w R vals os hA => h w R vals os (hw R w vals os hA)
theorem u8_wf {n : Int} (h : (Lit.int .u8 n).wf = true) : 0 ≤ n ∧ n < 256 := by
  have := (Lit.wf_int_iff .u8 n).1 h
  simp [IntKind.min, IntKind.max, IntKind.signed, IntKind.bits] at this
  omega
theorem bytes_of_elems : ∀ (elems : List (List IV)), (∀ c ∈ elems, Tyl [.int .u8] c) → ∃ l : List UInt8, l.length = elems.length ∧ elems.flatten = bcells l
  | [], _ => ⟨[], rfl, rfl⟩
  | c :: elems, h => by
    obtain ⟨l, h1, h2⟩ := bytes_of_elems elems fun c' hc' => h c' (by simp [hc'])
    have hc := h c (by simp)
    unfold Tyl at hc
    obtain ⟨y, ys, rfl, hy, hys⟩ := hc
    unfold Tyl at hys; subst hys
    unfold Ty at hy
    obtain ⟨n, rfl, hw⟩ := hy
    obtain ⟨w1, w2⟩ := u8_wf hw
    refine ⟨UInt8.ofNat n.toNat :: l, by simp [h1], ?_⟩
    simp only [List.flatten_cons, h2, bcells, List.map_cons, List.cons_append, List.nil_append]
    congr 3
    rw [UInt8.toNat_ofNat']
    omega
theorem row_bytes {x : IV} (h : Ty (.row [.int .u8]) x) : ∃ l : List UInt8, x = .tr l.length (bcells l) ∧ l.length ≤ maxLen := by
  unfold Ty at h
  obtain ⟨elems, rfl, h1, h2⟩ := h
  obtain ⟨l, h3, h4⟩ := bytes_of_elems elems h2
  exact ⟨l, by rw [h3, h4], by omega⟩
theorem TyA.cons_inv {p : Par} {ps : List Par} {A : List IV} (h : TyA (p :: ps) A) : ∃ xs B, A = argIV p.agg xs :: B ∧ Tyl p.ss xs ∧ TyA ps B := by
  unfold TyA at h; exact h
theorem TyA.one_inv {s : Sh} {ps : List Par} {A : List IV} (h : TyA (⟨false, [s]⟩ :: ps) A) : ∃ x B, A = x :: B ∧ Ty s x ∧ TyA ps B := by
  obtain ⟨xs, B, rfl, h1, h2⟩ := h.cons_inv
  unfold Tyl at h1
  obtain ⟨y, ys, rfl, hy, hys⟩ := h1
  exact ⟨y, B, rfl, hy, h2⟩
theorem TyA.nil_inv {A : List IV} (h : TyA [] A) : A = [] := by unfold TyA at h; exact h
end Go.Lift
