/- Ideal values, the relation between them and the machine's values and memory. -/
import Derived.WalkKit
import Derived.KernelRfl
namespace Go.Lift
open Go Go.RowKit

/-- Ideal values. 'v': a plain value; 'emp': a slice of no element and no capacity; 'tr': a slice that is only read, by its cells; 'rp': an address in such a one;
'sl': a slice of a local row; 'ptr': an address in a local block; 'own', 'obj', 'ago': at a call's border, a row, a variable or a struct handed over with its content. -/
inductive IV where
  | v (x : Value)
  | emp
  | tr (n : Nat) (cs : List IV)
  | rp (cs : List IV) (o : Nat)
  | sl (k ver o n : Nat)
  | ptr (k ver o : Nat)
  | agg (cs : List IV)
  | tup (cs : List IV)
  | fn (f : Fn) (caps : List IV)
  | own (e : TypeId) (n : Nat) (fl : Bool) (cs : List IV)
  | obj (cs : List IV)
  | ago (cs : List IV)
  | gone
  deriving Inhabited

inductive OwnR where
  | blk (g : Nat)
  | rng (g d len : Nat)
def OwnR.has : OwnR → Nat → Nat → Prop
  | .blk g, b, _ => b = g
  | .rng g d len, b, o => b = g ∧ d ≤ o ∧ o < d + len
def OwnR.b : OwnR → Nat
  | .blk g => g
  | .rng g _ _ => g
theorem OwnR.has_b {x : OwnR} {b o : Nat} (h : x.has b o) : b = x.b := by cases x <;> simp_all [OwnR.has, OwnR.b]
def Owns (os : List OwnR) (b o : Nat) : Prop := ∃ r ∈ os, r.has b o
def OwnR.apart (x y : OwnR) : Prop := ∀ b o, x.has b o → y.has b o → False
def Disj (os : List OwnR) : Prop := os.Pairwise OwnR.apart

/-- What a stretch of the run does to memory: it writes at most at the cells of 'os'; no block changes its kind. -/
structure Fr (w w' : World) (os : List OwnR) : Prop where
  hos : w'.os = w.os
  htape : w'.tape = w.tape
  hout : w'.output = w.output
  hsize : w.heap.size ≤ w'.heap.size
  hblk : ∀ b, b < w.heap.size → (∀ o, ¬ Owns os b o) → w'.heap[b]? = w.heap[b]?
  hcel : ∀ b arr T fr, w.heap[b]? = some (.cells arr T fr) → ∃ arr', w'.heap[b]? = some (.cells arr' T fr) ∧ arr'.size = arr.size ∧ ∀ o, ¬ Owns os b o → arr'[o]? = arr[o]?

theorem Fr.refl (w : World) (os : List OwnR) : Fr w w os := ⟨rfl, rfl, rfl, Nat.le_refl _, fun _ _ _ => rfl, fun _ arr _ _ h => ⟨arr, h, rfl, fun _ _ => rfl⟩⟩

theorem lt_of_heap {w : World} {b : Nat} {o : Obj} (h : w.heap[b]? = some o) : b < w.heap.size := (Array.getElem?_eq_some_iff.1 h).1

theorem Fr.trans {w w1 w2 : World} {os os1 : List OwnR} (h : Fr w w1 os) (k : Fr w1 w2 os1) (hs : ∀ b o, Owns os1 b o → Owns os b o ∨ w.heap.size ≤ b) : Fr w w2 os := by
  refine ⟨k.hos.trans h.hos, k.htape.trans h.htape, k.hout.trans h.hout, Nat.le_trans h.hsize k.hsize, ?_, ?_⟩
  · intro b hb hn
    rw [k.hblk b (Nat.lt_of_lt_of_le hb h.hsize) fun o ho => (hs b o ho).elim (hn o) (by omega), h.hblk b hb hn]
  · intro b arr T fr hb
    obtain ⟨arr1, h1, hz1, hc1⟩ := h.hcel b arr T fr hb
    obtain ⟨arr2, h2, hz2, hc2⟩ := k.hcel b arr1 T fr h1
    have hlt := lt_of_heap hb
    refine ⟨arr2, h2, hz2.trans hz1, fun o ho => ?_⟩
    rw [hc2 o fun h' => (hs b o h').elim ho (by omega), hc1 o ho]

theorem Fr.mono {w w1 : World} {os os1 : List OwnR} (h : Fr w w1 os1) (hs : ∀ b o, Owns os1 b o → Owns os b o ∨ w.heap.size ≤ b) : Fr w w1 os :=
  (Fr.refl w os).trans h hs

theorem Fr.drew (w : World) (os : List OwnR) : Fr w w.drew os := ⟨rfl, rfl, rfl, Nat.le_refl _, fun _ _ _ => rfl, fun _ arr _ _ h => ⟨arr, h, rfl, fun _ _ => rfl⟩⟩

theorem Fr.alloc (w : World) (o : Obj) (os : List OwnR) : Fr w (w.alloc o) os := by
  have e : ∀ b, b < w.heap.size → (w.alloc o).heap[b]? = w.heap[b]? := fun b hb => by
    show (w.heap.push o)[b]? = _
    rw [Array.getElem?_push, if_neg (by omega)]
  exact ⟨rfl, rfl, rfl, by simp, fun b hb _ => e b hb, fun b arr T fr h => ⟨arr, by rw [e b (lt_of_heap h)]; exact h, rfl, fun _ _ => rfl⟩⟩

theorem heap_alloc_lt {w : World} {o : Obj} {b : Nat} (hb : b < w.heap.size) : (w.alloc o).heap[b]? = w.heap[b]? := by
  show (w.heap.push o)[b]? = _
  rw [Array.getElem?_push, if_neg (by omega)]
theorem heap_alloc_at (w : World) (o : Obj) : (w.alloc o).heap[w.heap.size]? = some o := by
  show (w.heap.push o)[w.heap.size]? = _
  rw [Array.getElem?_push, if_pos rfl]

/-! ### values that lead to memory that is only read -/
mutual
def TR (R : Nat → Prop) (w : World) : IV → Value → Prop
  | .v x, y => y = x
  | .emp, y => ∃ a, y = .slice a 0 0
  | .tr n cs, y => ∃ a c, y = .slice a n c ∧ n ≤ c ∧ (cs = [] ∨ ∃ b o, a = some ⟨b, o, none⟩ ∧ R b ∧ TRm R w cs b o)
  | .agg cs, y => ∃ arr, y = .agg arr ∧ TRl R w cs arr.toList
  | .rp _ _, _ => False
  | .sl _ _ _ _, _ => False
  | .ptr _ _ _, _ => False
  | .tup _, _ => False
  | .fn _ _, _ => False
  | .own _ _ _ _, _ => False
  | .obj _, _ => False
  | .ago _, _ => False
  | .gone, _ => False
def TRl (R : Nat → Prop) (w : World) : List IV → List Value → Prop
  | [], ys => ys = []
  | x :: xs, ys => ∃ y ys', ys = y :: ys' ∧ (TR R w x y ∧ y.oneCell' = true) ∧ TRl R w xs ys'
def TRm (R : Nat → Prop) (w : World) : List IV → Nat → Nat → Prop
  | [], _, _ => True
  | x :: xs, b, o => (∃ y, w.cell? ⟨b, o, none⟩ = some y ∧ TR R w x y ∧ y.oneCell' = true) ∧ TRm R w xs b (o + 1)
end

def HeapEq (R : Nat → Prop) (w w' : World) : Prop := ∀ b, R b → w'.heap[b]? = w.heap[b]?

mutual
theorem TR.mono {R R' : Nat → Prop} {w w' : World} (hR : ∀ b, R b → R' b) (hw : HeapEq R w w') : ∀ (x : IV) (y : Value), TR R w x y → TR R' w' x y
  | .v x, y, h => h
  | .emp, y, h => h
  | .tr n cs, y, h => by
    unfold TR at h ⊢
    obtain ⟨a, c, h1, h2, h3⟩ := h
    refine ⟨a, c, h1, h2, h3.imp id ?_⟩
    rintro ⟨b, o, e, hb, hm⟩
    exact ⟨b, o, e, hR b hb, TRm.mono hR hw cs b o hb hm⟩
  | .agg cs, y, h => by
    unfold TR at h ⊢
    obtain ⟨arr, h1, h2⟩ := h
    exact ⟨arr, h1, TRl.mono hR hw cs arr.toList h2⟩
  | .rp _ _, y, h => by unfold TR at h; exact h.elim
  | .sl _ _ _ _, y, h => by unfold TR at h; exact h.elim
  | .ptr _ _ _, y, h => by unfold TR at h; exact h.elim
  | .tup _, y, h => by unfold TR at h; exact h.elim
  | .fn _ _, y, h => by unfold TR at h; exact h.elim
  | .own _ _ _ _, y, h => by unfold TR at h; exact h.elim
  | .obj _, y, h => by unfold TR at h; exact h.elim
  | .ago _, y, h => by unfold TR at h; exact h.elim
  | .gone, y, h => by unfold TR at h; exact h.elim
theorem TRl.mono {R R' : Nat → Prop} {w w' : World} (hR : ∀ b, R b → R' b) (hw : HeapEq R w w') : ∀ (xs : List IV) (ys : List Value), TRl R w xs ys → TRl R' w' xs ys
  | [], ys, h => h
  | x :: xs, ys, h => by
    unfold TRl at h ⊢
    obtain ⟨y, ys', h1, ⟨h2, h3⟩, h4⟩ := h
    exact ⟨y, ys', h1, ⟨TR.mono hR hw x y h2, h3⟩, TRl.mono hR hw xs ys' h4⟩
theorem TRm.mono {R R' : Nat → Prop} {w w' : World} (hR : ∀ b, R b → R' b) (hw : HeapEq R w w') : ∀ (xs : List IV) (b o : Nat), R b → TRm R w xs b o → TRm R' w' xs b o
  | [], _, _, _, _ => by unfold TRm; trivial
  | x :: xs, b, o, hb, h => by
    unfold TRm at h ⊢
    obtain ⟨⟨y, h1, h2, h3⟩, h4⟩ := h
    exact ⟨⟨y, by rw [← h1]; exact World.cell?_of_block (hw b hb), TR.mono hR hw x y h2, h3⟩, TRm.mono hR hw xs b (o + 1) hb h4⟩
end

theorem TRm.get {R : Nat → Prop} {w : World} : ∀ {xs : List IV} {b o : Nat}, TRm R w xs b o → ∀ (i : Nat) (x : IV), xs[i]? = some x → ∃ y, w.cell? ⟨b, o + i, none⟩ = some y ∧ TR R w x y ∧ y.oneCell' = true
  | [], _, _, _, _, _, hx => by simp at hx
  | z :: zs, b, o, h, i, x, hx => by
    unfold TRm at h
    cases i with
    | zero => simp at hx; subst hx; exact h.1
    | succ i => simp at hx; have := TRm.get h.2 i x hx; rwa [show o + 1 + i = o + (i + 1) by omega] at this
theorem TRm.of_get {R : Nat → Prop} {w : World} : ∀ {xs : List IV} {b o : Nat}, (∀ (i : Nat) (x : IV), xs[i]? = some x → ∃ y, w.cell? ⟨b, o + i, none⟩ = some y ∧ TR R w x y ∧ y.oneCell' = true) → TRm R w xs b o
  | [], _, _, _ => by unfold TRm; trivial
  | z :: zs, b, o, h => by
    unfold TRm
    refine ⟨h 0 z rfl, TRm.of_get (fun (i : Nat) (x : IV) (hx : zs[i]? = some x) => ?_)⟩
    have := h (i + 1) x (by simpa using hx)
    rwa [show o + (i + 1) = o + 1 + i by omega] at this
theorem TRl.length {R : Nat → Prop} {w : World} : ∀ {xs : List IV} {ys : List Value}, TRl R w xs ys → ys.length = xs.length
  | [], ys, h => by unfold TRl at h; subst h; rfl
  | x :: xs, ys, h => by unfold TRl at h; obtain ⟨y, ys', rfl, _, h4⟩ := h; simp [TRl.length h4]
theorem TRl.get {R : Nat → Prop} {w : World} : ∀ {xs : List IV} {ys : List Value}, TRl R w xs ys → ∀ (i : Nat) (x : IV), xs[i]? = some x → ∃ y, ys[i]? = some y ∧ TR R w x y ∧ y.oneCell' = true
  | [], _, _, _, _, hx => by simp at hx
  | z :: zs, ys, h, i, x, hx => by
    unfold TRl at h
    obtain ⟨y, ys', rfl, h2, h4⟩ := h
    cases i with
    | zero => simp at hx; subst hx; exact ⟨y, rfl, h2⟩
    | succ i => simp at hx; exact TRl.get h4 i x hx
theorem TRl.of_get {R : Nat → Prop} {w : World} : ∀ {xs : List IV} {ys : List Value}, ys.length = xs.length → (∀ (i : Nat) (x : IV) (y : Value), xs[i]? = some x → ys[i]? = some y → TR R w x y ∧ y.oneCell' = true) → TRl R w xs ys
  | [], ys, hl, _ => by unfold TRl; exact List.eq_nil_of_length_eq_zero hl
  | z :: zs, [], hl, _ => by simp at hl
  | z :: zs, y :: ys, hl, h => by
    unfold TRl
    refine ⟨y, ys, rfl, h 0 z y rfl rfl, TRl.of_get (by simpa using hl) (fun (i : Nat) (x : IV) (y' : Value) (hx : zs[i]? = some x) (hy : ys[i]? = some y') => ?_)⟩
    exact h (i + 1) x y' (by simpa using hx) (by simpa using hy)
theorem TRl.append {R : Nat → Prop} {w : World} {xs xs' : List IV} {ys ys' : List Value} (h : TRl R w xs ys) (h' : TRl R w xs' ys') : TRl R w (xs ++ xs') (ys ++ ys') := by
  refine TRl.of_get (by simp [h.length, h'.length]) fun i x y hx hy => ?_
  rw [List.getElem?_append] at hx hy
  rw [h.length] at hy
  split at hx <;> rename_i hi
  · rw [if_pos hi] at hy
    obtain ⟨y', h1, h2⟩ := h.get i x hx
    rw [hy] at h1; cases h1; exact h2
  · rw [if_neg hi] at hy
    obtain ⟨y', h1, h2⟩ := h'.get _ x hx
    rw [hy] at h1; cases h1; exact h2
theorem TRl.take {R : Nat → Prop} {w : World} {xs : List IV} {ys : List Value} (h : TRl R w xs ys) (n : Nat) : TRl R w (xs.take n) (ys.take n) := by
  refine TRl.of_get (by simp [h.length]) fun i x y hx hy => ?_
  rw [List.getElem?_take] at hx hy
  split at hx
  · rw [if_pos ‹_›] at hy
    obtain ⟨y', h1, h2⟩ := h.get i x hx
    rw [hy] at h1; cases h1; exact h2
  · simp at hx
theorem TRl.set {R : Nat → Prop} {w : World} {xs : List IV} {ys : List Value} (h : TRl R w xs ys) (n : Nat) {x : IV} {y : Value} (hx : TR R w x y) (hy : y.oneCell' = true) : TRl R w (xs.set n x) (ys.set n y) := by
  refine TRl.of_get (by simp [h.length]) fun i x' y' hx' hy' => ?_
  rw [List.getElem?_set] at hx' hy'
  rw [h.length] at hy'
  split at hx'
  · rw [if_pos ‹_›] at hy'
    split at hx'
    · rw [if_pos ‹_›] at hy'; cases hx'; cases hy'; exact ⟨hx, hy⟩
    · simp at hx'
  · rw [if_neg ‹_›] at hy'
    obtain ⟨y1, h1, h2⟩ := h.get i x' hx'
    rw [hy'] at h1; cases h1; exact h2
end Go.Lift
