import Derived.WalkKit
import Derived.KernelRfl
import Derived.Laws.ComplexArith
import Derived.ScopeJumps
import Derived.WalkMore
import Derived.Sort.LoopGhostIn
import Derived.RangeFuncNested
import Derived.OrdersIn
set_option linter.unusedVariables false
set_option linter.unusedSimpArgs false
/- Ideal values, the relation between them and the machine's values and memory. -/
namespace Go.Lift
open Go Go.RowKit

inductive IV where
  | v (x : Value)
  | emp
  | tr (n : Nat) (cs : List IV)
  | rp (cs : List IV) (o : Nat)
  | sl (k ver o n : Nat)
  | ptr (k ver o : Nat)
  | agg (cs : List IV)
  | tup (cs : List IV)
  | fn (f : Fn) (caps : List IV)
  | own (e : TypeId) (n : Nat) (fl : Bool) (cs : List IV)
  | obj (cs : List IV)
  | ago (cs : List IV)
  | gone
  | mp (k ver : Nat)
  | omp (t : TypeId) (n : Nat) (cs : List IV)
  | orow (e : TypeId) (n : Nat) (cs : List IV)
  | el (k ver j : Nat)
  deriving Inhabited

inductive OwnR where
  | blk (g : Nat)
  | rng (g d len : Nat)
def OwnR.has : OwnR → Nat → Nat → Prop
  | .blk g, b, _ => b = g
  | .rng g d len, b, o => b = g ∧ d ≤ o ∧ o < d + len
def OwnR.b : OwnR → Nat
  | .blk g => g
  | .rng g _ _ => g
theorem OwnR.has_b {x : OwnR} {b o : Nat} (h : x.has b o) : b = x.b := by cases x <;> simp_all [OwnR.has, OwnR.b]
def Owns (os : List OwnR) (b o : Nat) : Prop := ∃ r ∈ os, r.has b o
def OwnR.apart (x y : OwnR) : Prop := ∀ b o, x.has b o → y.has b o → False
def Disj (os : List OwnR) : Prop := os.Pairwise OwnR.apart

theorem own_all {os : List OwnR} {b : Nat} (h : ∀ o, Owns os b o) : OwnR.blk b ∈ os := by
  have hM : ∃ M, ∀ g d len, OwnR.rng g d len ∈ os → d + len ≤ M := by
    clear h
    induction os with
    | nil => exact ⟨0, fun g d len h => by simp at h⟩
    | cons r os ih =>
      obtain ⟨M, hM⟩ := ih
      cases r with
      | blk g' => exact ⟨M, fun g d len h => hM g d len (by simpa using h)⟩
      | rng g' d' len' =>
        refine ⟨M + (d' + len'), fun g d len h => ?_⟩
        rcases List.mem_cons.1 h with h | h
        · cases h; omega
        · have := hM g d len h; omega
  obtain ⟨M, hM⟩ := hM
  obtain ⟨r, hr, hh⟩ := h M
  cases r with
  | blk g => have : b = g := hh; subst this; exact hr
  | rng g d len =>
    have h1 := hM g d len hr
    have h2 := hh.2.2
    omega

structure Fr (w w' : World) (os : List OwnR) : Prop where
  hos : w'.os = w.os
  htape : w'.tape = w.tape
  hout : w'.output = w.output
  hsize : w.heap.size ≤ w'.heap.size
  hblk : ∀ b, b < w.heap.size → (∀ o, ¬ Owns os b o) → w'.heap[b]? = w.heap[b]?
  hcel : ∀ b arr T fr, w.heap[b]? = some (.cells arr T fr) → ∃ arr', w'.heap[b]? = some (.cells arr' T fr) ∧ arr'.size = arr.size ∧ ∀ o, ¬ Owns os b o → arr'[o]? = arr[o]?

theorem Fr.refl (w : World) (os : List OwnR) : Fr w w os := ⟨rfl, rfl, rfl, Nat.le_refl _, fun _ _ _ => rfl, fun _ arr _ _ h => ⟨arr, h, rfl, fun _ _ => rfl⟩⟩

theorem lt_of_heap {w : World} {b : Nat} {o : Obj} (h : w.heap[b]? = some o) : b < w.heap.size := (Array.getElem?_eq_some_iff.1 h).1

theorem Fr.trans {w w1 w2 : World} {os os1 : List OwnR} (h : Fr w w1 os) (k : Fr w1 w2 os1) (hs : ∀ b o, Owns os1 b o → Owns os b o ∨ w.heap.size ≤ b) : Fr w w2 os := by
  refine ⟨k.hos.trans h.hos, k.htape.trans h.htape, k.hout.trans h.hout, Nat.le_trans h.hsize k.hsize, ?_, ?_⟩
  · intro b hb hn
    rw [k.hblk b (Nat.lt_of_lt_of_le hb h.hsize) fun o ho => (hs b o ho).elim (hn o) (by omega), h.hblk b hb hn]
  · intro b arr T fr hb
    obtain ⟨arr1, h1, hz1, hc1⟩ := h.hcel b arr T fr hb
    obtain ⟨arr2, h2, hz2, hc2⟩ := k.hcel b arr1 T fr h1
    have hlt := lt_of_heap hb
    refine ⟨arr2, h2, hz2.trans hz1, fun o ho => ?_⟩
    rw [hc2 o fun h' => (hs b o h').elim ho (by omega), hc1 o ho]

theorem Fr.mono {w w1 : World} {os os1 : List OwnR} (h : Fr w w1 os1) (hs : ∀ b o, Owns os1 b o → Owns os b o ∨ w.heap.size ≤ b) : Fr w w1 os :=
  (Fr.refl w os).trans h hs

theorem Fr.drew (w : World) (os : List OwnR) : Fr w w.drew os := ⟨rfl, rfl, rfl, Nat.le_refl _, fun _ _ _ => rfl, fun _ arr _ _ h => ⟨arr, h, rfl, fun _ _ => rfl⟩⟩

theorem Fr.alloc (w : World) (o : Obj) (os : List OwnR) : Fr w (w.alloc o) os := by
  have e : ∀ b, b < w.heap.size → (w.alloc o).heap[b]? = w.heap[b]? := fun b hb => by
    show (w.heap.push o)[b]? = _
    rw [Array.getElem?_push, if_neg (by omega)]
  exact ⟨rfl, rfl, rfl, by simp, fun b hb _ => e b hb, fun b arr T fr h => ⟨arr, by rw [e b (lt_of_heap h)]; exact h, rfl, fun _ _ => rfl⟩⟩

theorem heap_alloc_lt {w : World} {o : Obj} {b : Nat} (hb : b < w.heap.size) : (w.alloc o).heap[b]? = w.heap[b]? := by
  show (w.heap.push o)[b]? = _
  rw [Array.getElem?_push, if_neg (by omega)]
theorem heap_alloc_at (w : World) (o : Obj) : (w.alloc o).heap[w.heap.size]? = some o := by
  show (w.heap.push o)[w.heap.size]? = _
  rw [Array.getElem?_push, if_pos rfl]

mutual
def TR (R : Nat → Prop) (w : World) : IV → Value → Prop
  | .v x, y => y = x
  | .emp, y => ∃ a, y = .slice a 0 0
  | .tr n cs, y => ∃ a c, y = .slice a n c ∧ n ≤ c ∧ (cs = [] ∨ ∃ b o, a = some ⟨b, o, none⟩ ∧ R b ∧ TRm R w cs b o)
  | .agg cs, y => ∃ arr, y = .agg arr ∧ TRl R w cs arr.toList
  | .rp _ _, _ => False
  | .sl _ _ _ _, _ => False
  | .ptr _ _ _, _ => False
  | .tup _, _ => False
  | .fn _ _, _ => False
  | .own _ _ _ _, _ => False
  | .obj _, _ => False
  | .ago _, _ => False
  | .gone, _ => False
  | .mp _ _, _ => False
  | .omp _ _ _, _ => False
  | .orow _ _ _, _ => False
  | .el _ _ _, _ => False
def TRl (R : Nat → Prop) (w : World) : List IV → List Value → Prop
  | [], ys => ys = []
  | x :: xs, ys => ∃ y ys', ys = y :: ys' ∧ (TR R w x y ∧ y.oneCell' = true) ∧ TRl R w xs ys'
def TRm (R : Nat → Prop) (w : World) : List IV → Nat → Nat → Prop
  | [], _, _ => True
  | x :: xs, b, o => (∃ y, w.cell? ⟨b, o, none⟩ = some y ∧ TR R w x y ∧ y.oneCell' = true) ∧ TRm R w xs b (o + 1)
end

def HeapEq (R : Nat → Prop) (w w' : World) : Prop := ∀ b, R b → w'.heap[b]? = w.heap[b]?

mutual
theorem TR.mono {R R' : Nat → Prop} {w w' : World} (hR : ∀ b, R b → R' b) (hw : HeapEq R w w') : ∀ (x : IV) (y : Value), TR R w x y → TR R' w' x y
  | .v x, y, h => h
  | .emp, y, h => h
  | .tr n cs, y, h => by
    unfold TR at h ⊢
    obtain ⟨a, c, h1, h2, h3⟩ := h
    refine ⟨a, c, h1, h2, h3.imp id ?_⟩
    rintro ⟨b, o, e, hb, hm⟩
    exact ⟨b, o, e, hR b hb, TRm.mono hR hw cs b o hb hm⟩
  | .agg cs, y, h => by
    unfold TR at h ⊢
    obtain ⟨arr, h1, h2⟩ := h
    exact ⟨arr, h1, TRl.mono hR hw cs arr.toList h2⟩
  | .rp _ _, y, h => by unfold TR at h; exact h.elim
  | .sl _ _ _ _, y, h => by unfold TR at h; exact h.elim
  | .ptr _ _ _, y, h => by unfold TR at h; exact h.elim
  | .tup _, y, h => by unfold TR at h; exact h.elim
  | .fn _ _, y, h => by unfold TR at h; exact h.elim
  | .own _ _ _ _, y, h => by unfold TR at h; exact h.elim
  | .obj _, y, h => by unfold TR at h; exact h.elim
  | .ago _, y, h => by unfold TR at h; exact h.elim
  | .gone, y, h => by unfold TR at h; exact h.elim
  | .mp _ _, y, h => by unfold TR at h; exact h.elim
  | .omp _ _ _, y, h => by unfold TR at h; exact h.elim
  | .orow _ _ _, y, h => by unfold TR at h; exact h.elim
  | .el _ _ _, y, h => by unfold TR at h; exact h.elim
theorem TRl.mono {R R' : Nat → Prop} {w w' : World} (hR : ∀ b, R b → R' b) (hw : HeapEq R w w') : ∀ (xs : List IV) (ys : List Value), TRl R w xs ys → TRl R' w' xs ys
  | [], ys, h => h
  | x :: xs, ys, h => by
    unfold TRl at h ⊢
    obtain ⟨y, ys', h1, ⟨h2, h3⟩, h4⟩ := h
    exact ⟨y, ys', h1, ⟨TR.mono hR hw x y h2, h3⟩, TRl.mono hR hw xs ys' h4⟩
theorem TRm.mono {R R' : Nat → Prop} {w w' : World} (hR : ∀ b, R b → R' b) (hw : HeapEq R w w') : ∀ (xs : List IV) (b o : Nat), R b → TRm R w xs b o → TRm R' w' xs b o
  | [], _, _, _, _ => by unfold TRm; trivial
  | x :: xs, b, o, hb, h => by
    unfold TRm at h ⊢
    obtain ⟨⟨y, h1, h2, h3⟩, h4⟩ := h
    exact ⟨⟨y, by rw [← h1]; exact World.cell?_of_block (hw b hb), TR.mono hR hw x y h2, h3⟩, TRm.mono hR hw xs b (o + 1) hb h4⟩
end

theorem TRm.get {R : Nat → Prop} {w : World} : ∀ {xs : List IV} {b o : Nat}, TRm R w xs b o → ∀ (i : Nat) (x : IV), xs[i]? = some x → ∃ y, w.cell? ⟨b, o + i, none⟩ = some y ∧ TR R w x y ∧ y.oneCell' = true
  | [], _, _, _, _, _, hx => by simp at hx
  | z :: zs, b, o, h, i, x, hx => by
    unfold TRm at h
    cases i with
    | zero => simp at hx; subst hx; exact h.1
    | succ i => simp at hx; have := TRm.get h.2 i x hx; rwa [show o + 1 + i = o + (i + 1) by omega] at this
theorem TRm.of_get {R : Nat → Prop} {w : World} : ∀ {xs : List IV} {b o : Nat}, (∀ (i : Nat) (x : IV), xs[i]? = some x → ∃ y, w.cell? ⟨b, o + i, none⟩ = some y ∧ TR R w x y ∧ y.oneCell' = true) → TRm R w xs b o
  | [], _, _, _ => by unfold TRm; trivial
  | z :: zs, b, o, h => by
    unfold TRm
    refine ⟨h 0 z rfl, TRm.of_get (fun (i : Nat) (x : IV) (hx : zs[i]? = some x) => ?_)⟩
    have := h (i + 1) x (by simpa using hx)
    rwa [show o + (i + 1) = o + 1 + i by omega] at this
theorem TRl.length {R : Nat → Prop} {w : World} : ∀ {xs : List IV} {ys : List Value}, TRl R w xs ys → ys.length = xs.length
  | [], ys, h => by unfold TRl at h; subst h; rfl
  | x :: xs, ys, h => by unfold TRl at h; obtain ⟨y, ys', rfl, _, h4⟩ := h; simp [TRl.length h4]
theorem TRl.get {R : Nat → Prop} {w : World} : ∀ {xs : List IV} {ys : List Value}, TRl R w xs ys → ∀ (i : Nat) (x : IV), xs[i]? = some x → ∃ y, ys[i]? = some y ∧ TR R w x y ∧ y.oneCell' = true
  | [], _, _, _, _, hx => by simp at hx
  | z :: zs, ys, h, i, x, hx => by
    unfold TRl at h
    obtain ⟨y, ys', rfl, h2, h4⟩ := h
    cases i with
    | zero => simp at hx; subst hx; exact ⟨y, rfl, h2⟩
    | succ i => simp at hx; exact TRl.get h4 i x hx
theorem TRl.of_get {R : Nat → Prop} {w : World} : ∀ {xs : List IV} {ys : List Value}, ys.length = xs.length → (∀ (i : Nat) (x : IV) (y : Value), xs[i]? = some x → ys[i]? = some y → TR R w x y ∧ y.oneCell' = true) → TRl R w xs ys
  | [], ys, hl, _ => by unfold TRl; exact List.eq_nil_of_length_eq_zero hl
  | z :: zs, [], hl, _ => by simp at hl
  | z :: zs, y :: ys, hl, h => by
    unfold TRl
    refine ⟨y, ys, rfl, h 0 z y rfl rfl, TRl.of_get (by simpa using hl) (fun (i : Nat) (x : IV) (y' : Value) (hx : zs[i]? = some x) (hy : ys[i]? = some y') => ?_)⟩
    exact h (i + 1) x y' (by simpa using hx) (by simpa using hy)
theorem TRl.append {R : Nat → Prop} {w : World} {xs xs' : List IV} {ys ys' : List Value} (h : TRl R w xs ys) (h' : TRl R w xs' ys') : TRl R w (xs ++ xs') (ys ++ ys') := by
  refine TRl.of_get (by simp [h.length, h'.length]) fun i x y hx hy => ?_
  rw [List.getElem?_append] at hx hy
  rw [h.length] at hy
  split at hx <;> rename_i hi
  · rw [if_pos hi] at hy
    obtain ⟨y', h1, h2⟩ := h.get i x hx
    rw [hy] at h1; cases h1; exact h2
  · rw [if_neg hi] at hy
    obtain ⟨y', h1, h2⟩ := h'.get _ x hx
    rw [hy] at h1; cases h1; exact h2
theorem TRl.take {R : Nat → Prop} {w : World} {xs : List IV} {ys : List Value} (h : TRl R w xs ys) (n : Nat) : TRl R w (xs.take n) (ys.take n) := by
  refine TRl.of_get (by simp [h.length]) fun i x y hx hy => ?_
  rw [List.getElem?_take] at hx hy
  split at hx
  · rw [if_pos ‹_›] at hy
    obtain ⟨y', h1, h2⟩ := h.get i x hx
    rw [hy] at h1; cases h1; exact h2
  · simp at hx
end Go.Lift
/- A frame's ideal state, and how the machine's slots and memory lie to it. -/
namespace Go.Lift
open Go Go.RowKit

structure Blk where
  row : Bool
  t : TypeId
  n : Nat
  fl : Bool
  cs : List IV
  ver : Nat
  frz : Bool
  deriving Inhabited
structure St where
  N : Nat
  T : List (Nat × IV)
  L : List (Option Blk)
def lk : List (Nat × IV) → Nat → Option IV
  | [], _ => none
  | (t, x) :: r, s => if s = t then some x else lk r s
structure Plc where
  v : Value
  sz : Nat
structure Cx where
  pl : Nat → Nat → Option Plc
  R : Nat → Prop
structure Fx where
  w0 : World
  R0 : Nat → Prop
  os : List OwnR
  par : Nat → Option Plc
  rd : Option Nat

def SLr (p : Plc) (o n : Nat) (y : Value) : Prop :=
  (p.v = .slice none 0 0 ∧ (∃ a, y = .slice a 0 0) ∧ o = 0 ∧ n = 0) ∨
  ∃ g m cap ad, p.v = .slice (some ⟨g, 0, none⟩) m cap ∧ y = .slice (some ad) n (cap - o) ∧ o + n ≤ cap ∧ ((0 < n ∨ o = 0) → ad = ⟨g, o * p.sz, none⟩)
def PTr (p : Plc) (o : Nat) (y : Value) : Prop :=
  ∃ g d, (p.v = .pointer (some ⟨g, d, none⟩) ∨ (d = 0 ∧ ∃ m cap, p.v = .slice (some ⟨g, 0, none⟩) m cap)) ∧ y = .pointer (some ⟨g, d + o, none⟩)

mutual
def VX (cx : Cx) (w : World) : IV → Value → Prop
  | .v x, y => y = x
  | .emp, y => ∃ a, y = .slice a 0 0
  | .tr n cs, y => TR cx.R w (.tr n cs) y
  | .rp cs o, y => ∃ b d, y = .pointer (some ⟨b, d + o, none⟩) ∧ (cs = [] ∨ cx.R b ∧ TRm cx.R w cs b d)
  | .sl k ver o n, y => ∃ p, cx.pl k ver = some p ∧ SLr p o n y
  | .ptr k ver o, y => ∃ p, cx.pl k ver = some p ∧ PTr p o y
  | .agg cs, y => ∃ arr, y = .agg arr ∧ VXl cx w cs arr.toList ∧ ∀ z ∈ arr.toList, z.oneCell' = true
  | .tup cs, y => ∃ arr, y = .tuple arr ∧ VXl cx w cs arr.toList
  | .fn f caps, y => ∃ arr, y = .func f #[] arr ∧ VXl cx w caps arr.toList
  | .own _ _ _ _, _ => False
  | .obj _, _ => False
  | .ago _, _ => False
  | .gone, _ => False
  | .mp k ver, y => ∃ p, cx.pl k ver = some p ∧ ∃ g, p.v = .map (some g) ∧ y = .map (some g)
  | .omp _ _ _, _ => False
  | .orow _ _ _, _ => False
  | .el k ver j, y => ∃ p ptrs e, cx.pl k ver = some p ∧ p.v = .tuple #[.agg ptrs, e] ∧ ptrs[j]? = some y ∧ ∃ a, y = .pointer (some a)
def VXl (cx : Cx) (w : World) : List IV → List Value → Prop
  | [], ys => ys = []
  | x :: xs, ys => ∃ y ys', ys = y :: ys' ∧ VX cx w x y ∧ VXl cx w xs ys'
end

structure Cx.le (cx cx' : Cx) : Prop where
  pl : ∀ k ver p, cx.pl k ver = some p → cx'.pl k ver = some p
  R : ∀ b, cx.R b → cx'.R b
theorem Cx.le_refl (cx : Cx) : cx.le cx := ⟨fun _ _ _ h => h, fun _ h => h⟩
theorem Cx.le_trans {a b c : Cx} (h : a.le b) (k : b.le c) : a.le c := ⟨fun _ _ _ x => k.pl _ _ _ (h.pl _ _ _ x), fun _ x => k.R _ (h.R _ x)⟩

mutual
theorem VX.mono {cx cx' : Cx} {w w' : World} (hc : cx.le cx') (hw : HeapEq cx.R w w') : ∀ (x : IV) (y : Value), VX cx w x y → VX cx' w' x y
  | .v x, y, h => h
  | .emp, y, h => h
  | .tr n cs, y, h => by unfold VX at h ⊢; exact TR.mono hc.R hw _ _ h
  | .rp cs o, y, h => by
    unfold VX at h ⊢
    obtain ⟨b, d, h1, h2⟩ := h
    exact ⟨b, d, h1, h2.imp id fun ⟨h2, h3⟩ => ⟨hc.R b h2, TRm.mono hc.R hw _ _ _ h2 h3⟩⟩
  | .sl k ver o n, y, h => by unfold VX at h ⊢; obtain ⟨p, h1, h2⟩ := h; exact ⟨p, hc.pl _ _ _ h1, h2⟩
  | .ptr k ver o, y, h => by unfold VX at h ⊢; obtain ⟨p, h1, h2⟩ := h; exact ⟨p, hc.pl _ _ _ h1, h2⟩
  | .agg cs, y, h => by unfold VX at h ⊢; obtain ⟨arr, h1, h2, h3⟩ := h; exact ⟨arr, h1, VXl.mono hc hw _ _ h2, h3⟩
  | .tup cs, y, h => by unfold VX at h ⊢; obtain ⟨arr, h1, h2⟩ := h; exact ⟨arr, h1, VXl.mono hc hw _ _ h2⟩
  | .fn f cs, y, h => by unfold VX at h ⊢; obtain ⟨arr, h1, h2⟩ := h; exact ⟨arr, h1, VXl.mono hc hw _ _ h2⟩
  | .own _ _ _ _, y, h => by unfold VX at h; exact h.elim
  | .obj _, y, h => by unfold VX at h; exact h.elim
  | .ago _, y, h => by unfold VX at h; exact h.elim
  | .gone, y, h => by unfold VX at h; exact h.elim
  | .mp k ver, y, h => by unfold VX at h ⊢; obtain ⟨p, h1, h2⟩ := h; exact ⟨p, hc.pl _ _ _ h1, h2⟩
  | .omp _ _ _, y, h => by unfold VX at h; exact h.elim
  | .orow _ _ _, y, h => by unfold VX at h; exact h.elim
  | .el k ver j, y, h => by unfold VX at h ⊢; obtain ⟨p, ptrs, e, h1, h2⟩ := h; exact ⟨p, ptrs, e, hc.pl _ _ _ h1, h2⟩
theorem VXl.mono {cx cx' : Cx} {w w' : World} (hc : cx.le cx') (hw : HeapEq cx.R w w') : ∀ (xs : List IV) (ys : List Value), VXl cx w xs ys → VXl cx' w' xs ys
  | [], ys, h => by unfold VXl at h ⊢; exact h
  | x :: xs, ys, h => by
    unfold VXl at h ⊢
    obtain ⟨y, ys', h1, h2, h3⟩ := h
    exact ⟨y, ys', h1, VX.mono hc hw _ _ h2, VXl.mono hc hw _ _ h3⟩
end

theorem VXl.length {cx : Cx} {w : World} : ∀ {xs : List IV} {ys : List Value}, VXl cx w xs ys → ys.length = xs.length
  | [], ys, h => by unfold VXl at h; subst h; rfl
  | x :: xs, ys, h => by unfold VXl at h; obtain ⟨y, ys', rfl, _, h4⟩ := h; simp [VXl.length h4]
theorem VXl.get {cx : Cx} {w : World} : ∀ {xs : List IV} {ys : List Value}, VXl cx w xs ys → ∀ (i : Nat) (x : IV), xs[i]? = some x → ∃ y, ys[i]? = some y ∧ VX cx w x y
  | [], _, _, _, _, hx => by simp at hx
  | z :: zs, ys, h, i, x, hx => by
    unfold VXl at h
    obtain ⟨y, ys', rfl, h2, h4⟩ := h
    cases i with
    | zero => simp at hx; subst hx; exact ⟨y, rfl, h2⟩
    | succ i => simp at hx; exact VXl.get h4 i x hx
theorem VXl.of_get {cx : Cx} {w : World} : ∀ {xs : List IV} {ys : List Value}, ys.length = xs.length → (∀ (i : Nat) (x : IV) (y : Value), xs[i]? = some x → ys[i]? = some y → VX cx w x y) → VXl cx w xs ys
  | [], ys, hl, _ => by unfold VXl; exact List.eq_nil_of_length_eq_zero hl
  | z :: zs, [], hl, _ => by simp at hl
  | z :: zs, y :: ys, hl, h => by
    unfold VXl
    refine ⟨y, ys, rfl, h 0 z y rfl rfl, VXl.of_get (by simpa using hl) (fun (i : Nat) (x : IV) (y' : Value) (hx : zs[i]? = some x) (hy : ys[i]? = some y') => ?_)⟩
    exact h (i + 1) x y' (by simpa using hx) (by simpa using hy)
theorem VXl.nil {cx : Cx} {w : World} : VXl cx w [] [] := by unfold VXl; rfl
theorem VXl.cons {cx : Cx} {w : World} {x : IV} {y : Value} {xs : List IV} {ys : List Value} (h : VX cx w x y) (h' : VXl cx w xs ys) : VXl cx w (x :: xs) (y :: ys) := by
  unfold VXl; exact ⟨y, ys, rfl, h, h'⟩

mutual
theorem TR.vx {cx : Cx} {w : World} : ∀ (x : IV) (y : Value), TR cx.R w x y → VX cx w x y
  | .v x, y, h => h
  | .emp, y, h => h
  | .tr n cs, y, h => h
  | .agg cs, y, h => by
    unfold TR at h; unfold VX
    obtain ⟨arr, h1, h2⟩ := h
    refine ⟨arr, h1, TRl.vx cs arr.toList h2, ?_⟩
    intro z hz
    obtain ⟨i, hi, he⟩ := List.getElem_of_mem hz
    have hi' : i < cs.length := by rw [← h2.length]; exact hi
    obtain ⟨y', g1, _, g3⟩ := h2.get i cs[i] (List.getElem?_eq_getElem hi')
    rw [List.getElem?_eq_getElem hi, he] at g1
    cases g1; exact g3
  | .rp _ _, y, h => by unfold TR at h; exact h.elim
  | .sl _ _ _ _, y, h => by unfold TR at h; exact h.elim
  | .ptr _ _ _, y, h => by unfold TR at h; exact h.elim
  | .tup _, y, h => by unfold TR at h; exact h.elim
  | .fn _ _, y, h => by unfold TR at h; exact h.elim
  | .own _ _ _ _, y, h => by unfold TR at h; exact h.elim
  | .obj _, y, h => by unfold TR at h; exact h.elim
  | .ago _, y, h => by unfold TR at h; exact h.elim
  | .gone, y, h => by unfold TR at h; exact h.elim
  | .mp _ _, y, h => by unfold TR at h; exact h.elim
  | .omp _ _ _, y, h => by unfold TR at h; exact h.elim
  | .orow _ _ _, y, h => by unfold TR at h; exact h.elim
  | .el _ _ _, y, h => by unfold TR at h; exact h.elim
theorem TRl.vx {cx : Cx} {w : World} : ∀ (xs : List IV) (ys : List Value), TRl cx.R w xs ys → VXl cx w xs ys
  | [], ys, h => by unfold TRl at h; unfold VXl; exact h
  | x :: xs, ys, h => by
    unfold TRl at h; unfold VXl
    obtain ⟨y, ys', h1, ⟨h2, _⟩, h4⟩ := h
    exact ⟨y, ys', h1, TR.vx x y h2, TRl.vx xs ys' h4⟩
end

mutual
def BR (P : Program) (R : Nat → Prop) (w : World) : IV → Value → List OwnR → Prop
  | .own e n fl cs, y, os => ∃ sz, (∃ i, P.info? e = some i ∧ i.size = sz ∧ 0 < sz) ∧ (fl = true → ∀ x ∈ cs, ∃ z, x = .v z) ∧
      ((n = 0 ∧ cs = [] ∧ os = [] ∧ ∃ ad, y = .slice ad 0 0) ∨ ∃ xs g cap, y = .slice (some ⟨g, 0, none⟩) n cap ∧ w.ownsRow 0 e sz y n xs ∧ TRl R w cs xs ∧ os = [.blk g])
  | .obj cs, y, os => ∃ g d arr T os', y = .pointer (some ⟨g, d, none⟩) ∧ w.heap[g]? = some (.cells arr T (0, 0)) ∧ d + cs.length ≤ arr.size ∧
      BRl P R w cs ((arr.toList.drop d).take cs.length) os' ∧ (∀ z ∈ (arr.toList.drop d).take cs.length, z.oneCell' = true) ∧ os = .rng g d cs.length :: os'
  | .tup cs, y, os => ∃ arr, y = .tuple arr ∧ BRl P R w cs arr.toList os
  | .fn f cs, y, os => ∃ arr, y = .func f #[] arr ∧ BRl P R w cs arr.toList os
  | .ago cs, y, os => ∃ arr, y = .agg arr ∧ BRl P R w cs arr.toList os ∧ ∀ z ∈ arr.toList, z.oneCell' = true
  | .gone, _, os => os = []
  | .mp _ _, _, _ => False
  | .omp t n cs, y, os => (t == 0) = false ∧ ∃ g es clock, y = .map (some g) ∧ w.heap[g]? = some (.map es clock) ∧ es.size = n ∧ cs = [IV.tr n (es.toList.flatMap fun e => [IV.v e.key, IV.v e.val])] ∧ os = [.blk g]
  | .orow e n cs, y, os => ∃ g cap cur os', ((∃ i, P.info? e = some i ∧ i.size = 1) ∧ (e == 0) = false ∧ Disj os') ∧ y = .slice (some ⟨g, 0, none⟩) n cap ∧ w.heap[g]? = some (.cells cur e (0, 0)) ∧ n ≤ cap ∧ cap ≤ maxLen ∧ cur.size = cap * 1 ∧ cs.length = n ∧
      BRl P R w cs (cur.toList.take cs.length) os' ∧ (∀ z ∈ cur.toList.take cs.length, ∃ a, z = .pointer (some a)) ∧ os = .blk g :: os'
  | .v x, y, os => y = x ∧ os = []
  | .emp, y, os => (∃ a, y = .slice a 0 0) ∧ os = []
  | .tr n cs, y, os => TR R w (.tr n cs) y ∧ os = []
  | .agg cs, y, os => TR R w (.agg cs) y ∧ os = []
  | .rp cs o, y, os => ∃ g d arr T os', y = .pointer (some ⟨g, d + o, none⟩) ∧ w.heap[g]? = some (.cells arr T (0, 0)) ∧ d + cs.length ≤ arr.size ∧
      BRl P R w cs ((arr.toList.drop d).take cs.length) os' ∧ (∀ z ∈ (arr.toList.drop d).take cs.length, z.oneCell' = true) ∧ os = .rng g d cs.length :: os'
  | .sl _ _ _ _, _, _ => False
  | .ptr _ _ _, _, _ => False
  | .el _ _ _, _, _ => False
def BRl (P : Program) (R : Nat → Prop) (w : World) : List IV → List Value → List OwnR → Prop
  | [], ys, os => ys = [] ∧ os = []
  | x :: xs, ys, os => ∃ y ys' o1 o2, ys = y :: ys' ∧ BR P R w x y o1 ∧ BRl P R w xs ys' o2 ∧ os = o1 ++ o2
end

def Keeps (w w' : World) : OwnR → Prop
  | .blk g => w'.heap[g]? = w.heap[g]?
  | .rng g d len => ∀ arr T fr, w.heap[g]? = some (.cells arr T fr) → ∃ arr', w'.heap[g]? = some (.cells arr' T fr) ∧ arr'.size = arr.size ∧ ∀ i, i < len → arr'[d + i]? = arr[d + i]?
theorem Fr.keeps {w w' : World} {os : List OwnR} (h : Fr w w' os) {x : OwnR} (ha : ∀ b o, x.has b o → ¬ Owns os b o) (hb : x.b < w.heap.size) : Keeps w w' x := by
  cases x with
  | blk g => exact h.hblk g hb fun o => ha g o rfl
  | rng g d len =>
    intro arr T fr hg
    obtain ⟨arr', h1, h2, h3⟩ := h.hcel g arr T fr hg
    exact ⟨arr', h1, h2, fun i hi => h3 _ (ha g (d + i) ⟨rfl, by omega, by omega⟩)⟩
theorem Keeps.cut {w w' : World} {g d len : Nat} (h : Keeps w w' (.rng g d len)) {arr : Array Value} {T : TypeId} {fr : Nat × Nat} (hg : w.heap[g]? = some (.cells arr T fr)) :
    ∃ arr', w'.heap[g]? = some (.cells arr' T fr) ∧ arr'.size = arr.size ∧ (arr'.toList.drop d).take len = (arr.toList.drop d).take len := by
  obtain ⟨arr', h1, h2, h3⟩ := h arr T fr hg
  refine ⟨arr', h1, h2, List.ext_getElem? fun i => ?_⟩
  rw [List.getElem?_take, List.getElem?_take]
  split
  · rw [List.getElem?_drop, List.getElem?_drop]
    simpa using h3 i ‹_›
  · rfl
theorem TRl.map {R R' : Nat → Prop} {w w' : World} (hT : ∀ (x : IV) (y : Value), TR R w x y → TR R' w' x y) : ∀ {xs : List IV} {ys : List Value}, TRl R w xs ys → TRl R' w' xs ys
  | [], ys, h => by unfold TRl at h ⊢; exact h
  | x :: xs, ys, h => by
    unfold TRl at h ⊢
    obtain ⟨y, ys', h1, ⟨h2, h3⟩, h4⟩ := h
    exact ⟨y, ys', h1, ⟨hT x y h2, h3⟩, TRl.map hT h4⟩
mutual
theorem BR.keepsT {P : Program} {R R' : Nat → Prop} {w w' : World} (hT : ∀ (x : IV) (y : Value), TR R w x y → TR R' w' x y) : ∀ (A : IV) (y : Value) (os : List OwnR), (∀ z ∈ os, Keeps w w' z) → BR P R w A y os → BR P R' w' A y os
  | .v x, y, os, _, h => by unfold BR at h ⊢; exact h
  | .emp, y, os, _, h => by unfold BR at h ⊢; exact h
  | .gone, y, os, _, h => by unfold BR at h ⊢; exact h
  | .mp _ _, _, _, _, h => by unfold BR at h; exact h.elim
  | .el _ _ _, _, _, _, h => by unfold BR at h; exact h.elim
  | .sl _ _ _ _, _, _, _, h => by unfold BR at h; exact h.elim
  | .ptr _ _ _, _, _, _, h => by unfold BR at h; exact h.elim
  | .tr n cs, y, os, _, h => by unfold BR at h ⊢; exact ⟨hT _ _ h.1, h.2⟩
  | .agg cs, y, os, _, h => by unfold BR at h ⊢; exact ⟨hT _ _ h.1, h.2⟩
  | .own e n fl cs, y, os, hk, h => by
    unfold BR at h ⊢
    obtain ⟨sz, h1, h2, h3⟩ := h
    refine ⟨sz, h1, h2, h3.imp id ?_⟩
    rintro ⟨xs, g, cap, a1, a2, a3, rfl⟩
    refine ⟨xs, g, cap, a1, ⟨a2.1, a2.2.imp id ?_⟩, TRl.map hT a3, rfl⟩
    rintro ⟨g', cap', cur, h4, h0, h5, h6⟩
    rw [a1] at h4; cases h4
    refine ⟨g, cap, cur, a1, h0, ?_, h6⟩
    rw [show w'.heap[g]? = w.heap[g]? from hk (.blk g) (by simp)]
    exact h5
  | .obj cs, y, os, hk, h => by
    unfold BR at h ⊢
    obtain ⟨g, d, arr, T, os', h1, h2, h3, h4, h5, rfl⟩ := h
    obtain ⟨arr', k1, k2, k3⟩ := (hk (.rng g d cs.length) (by simp)).cut h2
    exact ⟨g, d, arr', T, os', h1, k1, by rw [k2]; exact h3, by rw [k3]; exact BRl.keepsT hT _ _ _ (fun z hz => hk z (by simp [hz])) h4, by rw [k3]; exact h5, rfl⟩
  | .rp cs o, y, os, hk, h => by
    unfold BR at h ⊢
    obtain ⟨g, d, arr, T, os', h1, h2, h3, h4, h5, rfl⟩ := h
    obtain ⟨arr', k1, k2, k3⟩ := (hk (.rng g d cs.length) (by simp)).cut h2
    exact ⟨g, d, arr', T, os', h1, k1, by rw [k2]; exact h3, by rw [k3]; exact BRl.keepsT hT _ _ _ (fun z hz => hk z (by simp [hz])) h4, by rw [k3]; exact h5, rfl⟩
  | .ago cs, y, os, hk, h => by unfold BR at h ⊢; obtain ⟨arr, h1, h2, h3⟩ := h; exact ⟨arr, h1, BRl.keepsT hT _ _ _ hk h2, h3⟩
  | .tup cs, y, os, hk, h => by unfold BR at h ⊢; obtain ⟨arr, h1, h2⟩ := h; exact ⟨arr, h1, BRl.keepsT hT _ _ _ hk h2⟩
  | .fn f cs, y, os, hk, h => by unfold BR at h ⊢; obtain ⟨arr, h1, h2⟩ := h; exact ⟨arr, h1, BRl.keepsT hT _ _ _ hk h2⟩
  | .omp t n cs, y, os, hk, h => by
    unfold BR at h ⊢
    obtain ⟨h0, g, es, clock, h1, h2, h3, h4, rfl⟩ := h
    exact ⟨h0, g, es, clock, h1, by rw [show w'.heap[g]? = w.heap[g]? from hk (.blk g) (by simp)]; exact h2, h3, h4, rfl⟩
  | .orow e n cs, y, os, hk, h => by
    unfold BR at h ⊢
    obtain ⟨g, cap, cur, os', h0, h1, h2, h3, h4, h5, h6, h7, h8, rfl⟩ := h
    exact ⟨g, cap, cur, os', h0, h1, by rw [show w'.heap[g]? = w.heap[g]? from hk (.blk g) (by simp)]; exact h2, h3, h4, h5, h6, BRl.keepsT hT _ _ _ (fun z hz => hk z (by simp [hz])) h7, h8, rfl⟩
theorem BRl.keepsT {P : Program} {R R' : Nat → Prop} {w w' : World} (hT : ∀ (x : IV) (y : Value), TR R w x y → TR R' w' x y) : ∀ (As : List IV) (ys : List Value) (os : List OwnR), (∀ z ∈ os, Keeps w w' z) → BRl P R w As ys os → BRl P R' w' As ys os
  | [], ys, os, _, h => by unfold BRl at h ⊢; exact h
  | x :: xs, ys, os, hk, h => by
    unfold BRl at h ⊢
    obtain ⟨y, ys', o1, o2, h1, h2, h3, rfl⟩ := h
    exact ⟨y, ys', o1, o2, h1, BR.keepsT hT _ _ _ (fun z hz => hk z (List.mem_append_left _ hz)) h2, BRl.keepsT hT _ _ _ (fun z hz => hk z (List.mem_append_right _ hz)) h3, rfl⟩
end
theorem BR.keeps {P : Program} {R R' : Nat → Prop} {w w' : World} (hR : ∀ b, R b → R' b) (hw : HeapEq R w w') (A : IV) (y : Value) (os : List OwnR) (hk : ∀ z ∈ os, Keeps w w' z) (h : BR P R w A y os) : BR P R' w' A y os := BR.keepsT (fun x y => TR.mono hR hw x y) A y os hk h
theorem BRl.keeps {P : Program} {R R' : Nat → Prop} {w w' : World} (hR : ∀ b, R b → R' b) (hw : HeapEq R w w') (A : List IV) (y : List Value) (os : List OwnR) (hk : ∀ z ∈ os, Keeps w w' z) (h : BRl P R w A y os) : BRl P R' w' A y os := BRl.keepsT (fun x y => TR.mono hR hw x y) A y os hk h
def Un (R R' : Nat → Prop) (w w' : World) : Prop := ∀ b o y, R b → w.cell? ⟨b, o, none⟩ = some y → R' b ∧ ∀ o', w'.cell? ⟨b, o', none⟩ = w.cell? ⟨b, o', none⟩
mutual
theorem TR.un {R R' : Nat → Prop} {w w' : World} (h : Un R R' w w') : ∀ (x : IV) (y : Value), TR R w x y → TR R' w' x y
  | .v x, y, h => h
  | .emp, y, h => h
  | .tr n [], y, hh => by
    unfold TR at hh ⊢
    obtain ⟨a, c, h1, h2, _⟩ := hh
    exact ⟨a, c, h1, h2, .inl rfl⟩
  | .tr n (x :: xs), y, hh => by
    unfold TR at hh ⊢
    obtain ⟨a, c, h1, h2, h3⟩ := hh
    refine ⟨a, c, h1, h2, .inr ?_⟩
    obtain ⟨b, o, e, hb, hm⟩ := h3.resolve_left (by simp)
    have hm' := hm
    unfold TRm at hm
    obtain ⟨⟨u, u1, u2⟩, _⟩ := hm
    obtain ⟨g1, g2⟩ := h b o u hb u1
    exact ⟨b, o, e, g1, TRm.un h (x :: xs) b o g2 hm'⟩
  | .agg cs, y, hh => by
    unfold TR at hh ⊢
    obtain ⟨arr, h1, h2⟩ := hh
    exact ⟨arr, h1, TRl.un h cs arr.toList h2⟩
  | .rp _ _, y, h => by unfold TR at h; exact h.elim
  | .sl _ _ _ _, y, h => by unfold TR at h; exact h.elim
  | .ptr _ _ _, y, h => by unfold TR at h; exact h.elim
  | .tup _, y, h => by unfold TR at h; exact h.elim
  | .fn _ _, y, h => by unfold TR at h; exact h.elim
  | .own _ _ _ _, y, h => by unfold TR at h; exact h.elim
  | .obj _, y, h => by unfold TR at h; exact h.elim
  | .ago _, y, h => by unfold TR at h; exact h.elim
  | .gone, y, h => by unfold TR at h; exact h.elim
  | .mp _ _, y, h => by unfold TR at h; exact h.elim
  | .omp _ _ _, y, h => by unfold TR at h; exact h.elim
  | .orow _ _ _, y, h => by unfold TR at h; exact h.elim
  | .el _ _ _, y, h => by unfold TR at h; exact h.elim
theorem TRl.un {R R' : Nat → Prop} {w w' : World} (h : Un R R' w w') : ∀ (xs : List IV) (ys : List Value), TRl R w xs ys → TRl R' w' xs ys
  | [], ys, h => by unfold TRl at h ⊢; exact h
  | x :: xs, ys, hh => by
    unfold TRl at hh ⊢
    obtain ⟨y, ys', h1, ⟨h2, h3⟩, h4⟩ := hh
    exact ⟨y, ys', h1, ⟨TR.un h x y h2, h3⟩, TRl.un h xs ys' h4⟩
theorem TRm.un {R R' : Nat → Prop} {w w' : World} (h : Un R R' w w') : ∀ (xs : List IV) (b o : Nat), (∀ o', w'.cell? ⟨b, o', none⟩ = w.cell? ⟨b, o', none⟩) → TRm R w xs b o → TRm R' w' xs b o
  | [], _, _, _, _ => by unfold TRm; trivial
  | x :: xs, b, o, hc, hh => by
    unfold TRm at hh ⊢
    obtain ⟨⟨y, h1, h2, h3⟩, h4⟩ := hh
    exact ⟨⟨y, by rw [hc]; exact h1, TR.un h x y h2, h3⟩, TRm.un h xs b (o + 1) hc h4⟩
end
mutual
theorem VX.un {cx : Cx} {R' : Nat → Prop} {w w' : World} (h : Un cx.R R' w w') : ∀ (x : IV) (y : Value), VX cx w x y → VX { cx with R := R' } w' x y
  | .v x, y, h => h
  | .emp, y, h => h
  | .tr n cs, y, hh => by unfold VX at hh ⊢; exact TR.un h _ _ hh
  | .rp [] o, y, hh => by
    unfold VX at hh ⊢
    obtain ⟨b, d, h1, _⟩ := hh
    exact ⟨b, d, h1, .inl rfl⟩
  | .rp (x :: xs) o, y, hh => by
    unfold VX at hh ⊢
    obtain ⟨b, d, h1, h2⟩ := hh
    obtain ⟨hb, hm⟩ := h2.resolve_left (by simp)
    have hm' := hm
    unfold TRm at hm
    obtain ⟨⟨u, u1, u2⟩, _⟩ := hm
    obtain ⟨g1, g2⟩ := h b d u hb u1
    exact ⟨b, d, h1, .inr ⟨g1, TRm.un h (x :: xs) b d g2 hm'⟩⟩
  | .sl k ver o n, y, h => by unfold VX at h ⊢; exact h
  | .ptr k ver o, y, h => by unfold VX at h ⊢; exact h
  | .agg cs, y, hh => by unfold VX at hh ⊢; obtain ⟨arr, h1, h2, h3⟩ := hh; exact ⟨arr, h1, VXl.un h _ _ h2, h3⟩
  | .tup cs, y, hh => by unfold VX at hh ⊢; obtain ⟨arr, h1, h2⟩ := hh; exact ⟨arr, h1, VXl.un h _ _ h2⟩
  | .fn f cs, y, hh => by unfold VX at hh ⊢; obtain ⟨arr, h1, h2⟩ := hh; exact ⟨arr, h1, VXl.un h _ _ h2⟩
  | .own _ _ _ _, y, h => by unfold VX at h; exact h.elim
  | .obj _, y, h => by unfold VX at h; exact h.elim
  | .ago _, y, h => by unfold VX at h; exact h.elim
  | .gone, y, h => by unfold VX at h; exact h.elim
  | .mp k ver, y, h => by unfold VX at h ⊢; exact h
  | .omp _ _ _, y, h => by unfold VX at h; exact h.elim
  | .orow _ _ _, y, h => by unfold VX at h; exact h.elim
  | .el k ver j, y, h => by unfold VX at h ⊢; exact h
theorem VXl.un {cx : Cx} {R' : Nat → Prop} {w w' : World} (h : Un cx.R R' w w') : ∀ (xs : List IV) (ys : List Value), VXl cx w xs ys → VXl { cx with R := R' } w' xs ys
  | [], ys, h => by unfold VXl at h ⊢; exact h
  | x :: xs, ys, hh => by
    unfold VXl at hh ⊢
    obtain ⟨y, ys', h1, h2, h3⟩ := hh
    exact ⟨y, ys', h1, VX.un h _ _ h2, VXl.un h _ _ h3⟩
end
theorem Keeps.refl (w : World) (z : OwnR) : Keeps w w z := by
  cases z with
  | blk g => rfl
  | rng g d len => exact fun arr T fr h => ⟨arr, h, rfl, fun _ _ => rfl⟩
theorem BR.mono' {P : Program} {w : World} {R R' : Nat → Prop} (hR : ∀ b, R b → R' b) (A : IV) (y : Value) (os : List OwnR) (h : BR P R w A y os) : BR P R' w A y os :=
  BR.keeps hR (fun _ _ => rfl) A y os (fun z _ => Keeps.refl w z) h
theorem BRl.mono' {P : Program} {w : World} {R R' : Nat → Prop} (hR : ∀ b, R b → R' b) (A : List IV) (y : List Value) (os : List OwnR) (h : BRl P R w A y os) : BRl P R' w A y os :=
  BRl.keeps hR (fun _ _ => rfl) A y os (fun z _ => Keeps.refl w z) h
mutual
theorem BR.lt {P : Program} {R : Nat → Prop} {w : World} : ∀ (A : IV) (y : Value) (os : List OwnR), BR P R w A y os → ∀ z ∈ os, z.b < w.heap.size
  | .v x, y, os, h => by unfold BR at h; obtain ⟨_, rfl⟩ := h; simp
  | .emp, y, os, h => by unfold BR at h; obtain ⟨_, rfl⟩ := h; simp
  | .gone, y, os, h => by unfold BR at h; subst h; simp
  | .mp _ _, _, _, h => by unfold BR at h; exact h.elim
  | .el _ _ _, _, _, h => by unfold BR at h; exact h.elim
  | .sl _ _ _ _, _, _, h => by unfold BR at h; exact h.elim
  | .ptr _ _ _, _, _, h => by unfold BR at h; exact h.elim
  | .tr n cs, y, os, h => by unfold BR at h; obtain ⟨_, rfl⟩ := h; simp
  | .agg cs, y, os, h => by unfold BR at h; obtain ⟨_, rfl⟩ := h; simp
  | .own e n fl cs, y, os, h => by
    unfold BR at h
    obtain ⟨sz, h1, h2, ⟨_, _, rfl, _⟩ | ⟨xs, g, cap, a1, a2, a3, rfl⟩⟩ := h
    · simp
    · rcases a2.2 with ⟨e, _⟩ | ⟨g', cap', cur, h4, h0, h5, h6⟩
      · rw [a1] at e; cases e
      · rw [a1] at h4; cases h4
        intro z hz; simp at hz; subst hz; exact lt_of_heap h5
  | .obj cs, y, os, h => by
    unfold BR at h
    obtain ⟨g, d, arr, T, os', h1, h2, h3, h4, h5, rfl⟩ := h
    intro z hz
    rcases List.mem_cons.1 hz with rfl | hz
    · exact lt_of_heap h2
    · exact BRl.lt _ _ _ h4 z hz
  | .rp cs o, y, os, h => by
    unfold BR at h
    obtain ⟨g, d, arr, T, os', h1, h2, h3, h4, h5, rfl⟩ := h
    intro z hz
    rcases List.mem_cons.1 hz with rfl | hz
    · exact lt_of_heap h2
    · exact BRl.lt _ _ _ h4 z hz
  | .ago cs, y, os, h => by unfold BR at h; obtain ⟨arr, h1, h2, h3⟩ := h; exact BRl.lt _ _ _ h2
  | .tup cs, y, os, h => by unfold BR at h; obtain ⟨arr, h1, h2⟩ := h; exact BRl.lt _ _ _ h2
  | .fn f cs, y, os, h => by unfold BR at h; obtain ⟨arr, h1, h2⟩ := h; exact BRl.lt _ _ _ h2
  | .omp t n cs, y, os, h => by
    unfold BR at h
    obtain ⟨_, g, es, clock, h1, h2, h3, h4, rfl⟩ := h
    intro z hz; simp at hz; subst hz; exact lt_of_heap h2
  | .orow e n cs, y, os, h => by
    unfold BR at h
    obtain ⟨g, cap, cur, os', h0, h1, h2, h3, h4, h5, h6, h7, h8, rfl⟩ := h
    intro z hz
    rcases List.mem_cons.1 hz with rfl | hz
    · exact lt_of_heap h2
    · exact BRl.lt _ _ _ h7 z hz
theorem BRl.lt {P : Program} {R : Nat → Prop} {w : World} : ∀ (As : List IV) (ys : List Value) (os : List OwnR), BRl P R w As ys os → ∀ z ∈ os, z.b < w.heap.size
  | [], ys, os, h => by unfold BRl at h; obtain ⟨_, rfl⟩ := h; simp
  | x :: xs, ys, os, h => by
    unfold BRl at h
    obtain ⟨y, ys', o1, o2, h1, h2, h3, rfl⟩ := h
    intro z hz
    rcases List.mem_append.1 hz with hz | hz
    · exact BR.lt _ _ _ h2 z hz
    · exact BRl.lt _ _ _ h3 z hz
end
mutual
theorem BR.rng {P : Program} {R : Nat → Prop} {w : World} : ∀ (A : IV) (y : Value) (os : List OwnR), BR P R w A y os → ∀ g d len, OwnR.rng g d len ∈ os → ∃ arr T, w.heap[g]? = some (.cells arr T (0, 0))
  | .v x, y, os, h => by unfold BR at h; obtain ⟨_, rfl⟩ := h; simp
  | .emp, y, os, h => by unfold BR at h; obtain ⟨_, rfl⟩ := h; simp
  | .gone, y, os, h => by unfold BR at h; subst h; simp
  | .mp _ _, _, _, h => by unfold BR at h; exact h.elim
  | .el _ _ _, _, _, h => by unfold BR at h; exact h.elim
  | .sl _ _ _ _, _, _, h => by unfold BR at h; exact h.elim
  | .ptr _ _ _, _, _, h => by unfold BR at h; exact h.elim
  | .tr n cs, y, os, h => by unfold BR at h; obtain ⟨_, rfl⟩ := h; simp
  | .agg cs, y, os, h => by unfold BR at h; obtain ⟨_, rfl⟩ := h; simp
  | .own e n fl cs, y, os, h => by
    unfold BR at h
    obtain ⟨sz, h1, h2, ⟨_, _, rfl, _⟩ | ⟨xs, g, cap, a1, a2, a3, rfl⟩⟩ := h <;> simp
  | .obj cs, y, os, h => by
    unfold BR at h
    obtain ⟨g, d, arr, T, os', h1, h2, h3, h4, h5, rfl⟩ := h
    intro g' d' len hz
    rcases List.mem_cons.1 hz with hz | hz
    · cases hz; exact ⟨_, _, h2⟩
    · exact BRl.rng _ _ _ h4 g' d' len hz
  | .rp cs o, y, os, h => by
    unfold BR at h
    obtain ⟨g, d, arr, T, os', h1, h2, h3, h4, h5, rfl⟩ := h
    intro g' d' len hz
    rcases List.mem_cons.1 hz with hz | hz
    · cases hz; exact ⟨_, _, h2⟩
    · exact BRl.rng _ _ _ h4 g' d' len hz
  | .ago cs, y, os, h => by unfold BR at h; obtain ⟨arr, h1, h2, h3⟩ := h; exact BRl.rng _ _ _ h2
  | .tup cs, y, os, h => by unfold BR at h; obtain ⟨arr, h1, h2⟩ := h; exact BRl.rng _ _ _ h2
  | .fn f cs, y, os, h => by unfold BR at h; obtain ⟨arr, h1, h2⟩ := h; exact BRl.rng _ _ _ h2
  | .omp t n cs, y, os, h => by
    unfold BR at h
    obtain ⟨_, g, es, clock, h1, h2, h3, h4, rfl⟩ := h
    simp
  | .orow e n cs, y, os, h => by
    unfold BR at h
    obtain ⟨g, cap, cur, os', h0, h1, h2, h3, h4, h5, h6, h7, h8, rfl⟩ := h
    intro g' d' len hz
    rcases List.mem_cons.1 hz with hz | hz
    · cases hz
    · exact BRl.rng _ _ _ h7 g' d' len hz
theorem BRl.rng {P : Program} {R : Nat → Prop} {w : World} : ∀ (As : List IV) (ys : List Value) (os : List OwnR), BRl P R w As ys os → ∀ g d len, OwnR.rng g d len ∈ os → ∃ arr T, w.heap[g]? = some (.cells arr T (0, 0))
  | [], ys, os, h => by unfold BRl at h; obtain ⟨_, rfl⟩ := h; simp
  | x :: xs, ys, os, h => by
    unfold BRl at h
    obtain ⟨y, ys', o1, o2, h1, h2, h3, rfl⟩ := h
    intro g d len hz
    rcases List.mem_append.1 hz with hz | hz
    · exact BR.rng _ _ _ h2 g d len hz
    · exact BRl.rng _ _ _ h3 g d len hz
end
theorem BRl.length {P : Program} {R : Nat → Prop} {w : World} : ∀ {As : List IV} {ys : List Value} {os : List OwnR}, BRl P R w As ys os → ys.length = As.length
  | [], ys, os, h => by unfold BRl at h; obtain ⟨rfl, _⟩ := h; rfl
  | x :: xs, ys, os, h => by unfold BRl at h; obtain ⟨y, ys', o1, o2, rfl, _, h, _⟩ := h; simp [BRl.length h]
def encR : OwnR → Value
  | .blk g => .agg #[.int .i64 g]
  | .rng g d l => .agg #[.int .i64 g, .int .i64 d, .int .i64 l]
def decR : Value → Option OwnR
  | .agg xs => match xs.toList with
    | [.int _ g] => some (.blk g.toNat)
    | [.int _ g, .int _ d, .int _ l] => some (.rng g.toNat d.toNat l.toNat)
    | _ => none
  | _ => none
def encO (os : List OwnR) : Value := .agg (os.map encR).toArray
def decO : Array Value → List OwnR
  | xs => match xs.toList with
    | [_, .agg ys] => ys.toList.filterMap decR
    | _ => []
theorem decR_enc (x : OwnR) : decR (encR x) = some x := by cases x <;> simp [encR, decR]
theorem decO_enc (y : Value) (os : List OwnR) : decO #[y, encO os] = os := by
  simp only [decO, encO]
  induction os with
  | nil => rfl
  | cons x xs ih =>
    simp only [List.map_cons, List.filterMap_cons, decR_enc]
    simpa using ih

def Blk.rng (b : Blk) (p : Plc) : List OwnR :=
  match p.v with
  | .slice (some a) _ _ => [.blk a.block]
  | .pointer (some a) => [.rng a.block a.off b.cs.length]
  | .map (some g) => [.blk g]
  | .tuple xs => decO xs
  | _ => []

structure RowOk (P : Program) (cx : Cx) (w : World) (p : Plc) (b : Blk) : Prop where
  ex : ∃ xs, w.ownsRow 0 b.t p.sz p.v b.n xs ∧ TRl cx.R w b.cs xs
  info : ∃ i, P.info? b.t = some i ∧ i.size = p.sz ∧ 0 < p.sz
  flat : b.fl = true → ∀ x ∈ b.cs, ∃ y, x = .v y
structure ObjOk (cx : Cx) (w : World) (p : Plc) (b : Blk) : Prop where
  fl : b.fl = false
  ex : ∃ g d arr T, p.v = .pointer (some ⟨g, d, none⟩) ∧ w.heap[g]? = some (.cells arr T (0, 0)) ∧ d + b.cs.length ≤ arr.size ∧
    ∀ (i : Nat) (x : IV), b.cs[i]? = some x → ∃ y, arr[d + i]? = some y ∧ VX cx w x y ∧ y.oneCell' = true
structure MapOk (w : World) (p : Plc) (b : Blk) : Prop where
  ex : ∃ g es clock, p.v = .map (some g) ∧ w.heap[g]? = some (.map es clock) ∧ es.size = b.n ∧ b.cs = [IV.tr b.n (es.toList.flatMap fun e => [IV.v e.key, IV.v e.val])]
  t : (b.t == 0) = false
structure PRowOk (P : Program) (cx : Cx) (w : World) (p : Plc) (b : Blk) : Prop where
  ex : ∃ g cap cur, p.v = .slice (some ⟨g, 0, none⟩) b.cs.length cap ∧ w.heap[g]? = some (.cells cur b.t (0, 0)) ∧ b.cs.length ≤ cap ∧ cap ≤ maxLen ∧ cur.size = cap * 1 ∧
    ∀ (i : Nat) (x : IV), b.cs[i]? = some x → ∃ y, cur[i]? = some y ∧ VX cx w x y ∧ ∃ a, y = .pointer (some a)
  info : ∃ i, P.info? b.t = some i ∧ i.size = 1
  sz : p.sz = 1
  t : (b.t == 0) = false
structure BagOk (P : Program) (cx : Cx) (w : World) (p : Plc) (b : Blk) : Prop where
  ex : ∃ ptrs os, p.v = .tuple #[.agg ptrs, encO os] ∧ BRl P cx.R w b.cs ptrs.toList os ∧ Disj os ∧ ∀ z ∈ ptrs.toList, ∃ a, z = .pointer (some a)
  t : (b.t == 0) = true
  len : b.cs.length = b.n
def SpOk (P : Program) (cx : Cx) (w : World) (p : Plc) (b : Blk) : Prop := b.row = false ∧ b.frz = false ∧ b.fl = true ∧ (MapOk w p b ∨ PRowOk P cx w p b ∨ BagOk P cx w p b)
def BlkOk (P : Program) (cx : Cx) (w : World) (p : Plc) (b : Blk) : Prop := (b.row = true ∧ RowOk P cx w p b) ∨ (b.row = false ∧ b.frz = false ∧ ObjOk cx w p b) ∨ SpOk P cx w p b
theorem BlkOk.ofRow {P : Program} {cx : Cx} {w : World} {p : Plc} {b : Blk} (h : BlkOk P cx w p b) (hr : b.row = true) : RowOk P cx w p b := by
  rcases h with ⟨_, h⟩ | ⟨h', _⟩ | ⟨h', _⟩
  · exact h
  · rw [hr] at h'; cases h'
  · rw [hr] at h'; cases h'
theorem BlkOk.ofObj {P : Program} {cx : Cx} {w : World} {p : Plc} {b : Blk} (h : BlkOk P cx w p b) (hr : b.row = false) (hf : b.fl = false) : b.frz = false ∧ ObjOk cx w p b := by
  rcases h with ⟨h', _⟩ | ⟨_, h⟩ | ⟨_, _, h', _⟩
  · rw [hr] at h'; cases h'
  · exact h
  · rw [hf] at h'; cases h'
theorem BlkOk.ofSp {P : Program} {cx : Cx} {w : World} {p : Plc} {b : Blk} (h : BlkOk P cx w p b) (hr : b.row = false) : b.frz = false := by
  rcases h with ⟨h', _⟩ | ⟨_, h, _⟩ | ⟨_, h, _⟩
  · rw [hr] at h'; cases h'
  · exact h
  · exact h
theorem SpOk.lt {P : Program} {cx : Cx} {w : World} {p : Plc} {b : Blk} (h : SpOk P cx w p b) : ∀ x ∈ b.rng p, x.b < w.heap.size := by
  intro x hx
  obtain ⟨_, _, _, h | h | h⟩ := h
  · obtain ⟨g, es, clock, h1, h2, _⟩ := h.ex
    simp [Blk.rng, h1] at hx; subst hx; exact lt_of_heap h2
  · obtain ⟨g, cap, cur, h1, h2, _⟩ := h.ex
    simp [Blk.rng, h1] at hx; subst hx; exact lt_of_heap h2
  · obtain ⟨ptrs, os, h1, h2, _⟩ := h.ex
    simp only [Blk.rng, h1, decO_enc] at hx
    exact BRl.lt _ _ _ h2 x hx
def At (cx : Cx) (σ : St) (k : Nat) (b : Blk) (p : Plc) : Prop := σ.L[k]? = some (some b) ∧ cx.pl k b.ver = some p

structure Mem (P : Program) (fx : Fx) (cx : Cx) (σ : St) (w : World) : Prop where
  blk : ∀ k b, σ.L[k]? = some (some b) → ∃ p, cx.pl k b.ver = some p ∧ BlkOk P cx w p b
  plok : ∀ k ver p, cx.pl k ver = some p → k < σ.L.length ∧ ∀ b, σ.L[k]? = some (some b) → ver ≤ b.ver
  dis : ∀ k k' b b' p p', At cx σ k b p → At cx σ k' b' p' → k ≠ k' → ∀ x ∈ b.rng p, ∀ y ∈ b'.rng p', x.apart y
  nor : ∀ k b p, At cx σ k b p → ∀ x ∈ b.rng p, ∀ bb o, x.has bb o → (b.frz = false → ¬ cx.R bb) ∧ (b.frz = true → cx.R bb)
  wit : ∀ k b p, At cx σ k b p → ∀ x ∈ b.rng p, ∀ bb o, x.has bb o → Owns fx.os bb o ∨ fx.w0.heap.size ≤ bb
  rlt : ∀ b, cx.R b → b < w.heap.size
  rin : ∀ b, cx.R b → fx.R0 b ∨ (∀ o, Owns fx.os b o) ∨ fx.w0.heap.size ≤ b
  r0 : ∀ b, fx.R0 b → cx.R b
  fr : Fr fx.w0 w fx.os
  par : ∀ k p, fx.par k = some p → cx.pl k 0 = some p

def mark (D : Nat) : Deferred := { target := .collected D, args := #[] }
def Dfr (cx : Cx) (ds : List Deferred) (w : World) : Prop := ∃ Ds : List Nat, ds = Ds.map mark ∧ Ds.Nodup ∧ ∀ D ∈ Ds, cx.R D ∧ w.heap[D]? = some (.deferred (some []))
theorem Dfr.nil {cx : Cx} {w : World} : Dfr cx [] w := ⟨[], rfl, List.nodup_nil, by simp⟩
theorem Dfr.mono {cx cx' : Cx} {ds : List Deferred} {w w' : World} (h : Dfr cx ds w) (hR : ∀ b, cx.R b → cx'.R b) (hw : HeapEq cx.R w w') : Dfr cx' ds w' := by
  obtain ⟨Ds, h1, h2, h3⟩ := h
  exact ⟨Ds, h1, h2, fun D hD => ⟨hR D (h3 D hD).1, by rw [hw D (h3 D hD).1]; exact (h3 D hD).2⟩⟩
structure Tmps (cx : Cx) (σ : St) (a : Act) (w : World) : Prop where
  dfr : Dfr cx a.defers w
  len : a.tmps.size = σ.N
  tmp : ∀ (t : Nat) (x : IV), lk σ.T t = some x → ∃ y, a.tmps[t]? = some y ∧ VX cx w x y

structure Sim (P : Program) (fx : Fx) (cx : Cx) (σ : St) (a : Act) (w : World) : Prop where
  m : Mem P fx cx σ w
  s : Tmps cx σ a w

def St.put (σ : St) (d : Nat) (x : IV) : St := { σ with T := (d, x) :: σ.T }

theorem Tmps.put {cx : Cx} {σ : St} {a : Act} {w : World} (h : Tmps cx σ a w) (d : Nat) (hd : d < σ.N) (x : IV) (y : Value) (hx : VX cx w x y) : Tmps cx (σ.put d x) (a.put (some d) y) w := by
  refine ⟨h.dfr, by simp [Act.put, St.put, h.len], fun t z hz => ?_⟩
  simp only [St.put, lk] at hz
  simp only [Act.put, Array.getElem?_setIfInBounds]
  split at hz
  · rename_i e
    subst e
    rw [if_pos rfl, if_pos (by rw [h.len]; exact hd)]
    cases hz; exact ⟨y, rfl, hx⟩
  · rename_i e
    rw [if_neg (fun e' => e e'.symm)]
    exact h.tmp t z hz
theorem Tmps.mono {cx cx' : Cx} {σ σ' : St} {a : Act} {w w' : World} (h : Tmps cx σ a w) (hT : ∀ t x, lk σ'.T t = some x → lk σ.T t = some x) (hN : σ'.N = σ.N) (hc : cx.le cx') (hw : HeapEq cx.R w w') : Tmps cx' σ' a w' :=
  ⟨h.dfr.mono hc.R hw, by rw [hN]; exact h.len, fun t x hx => by obtain ⟨y, h1, h2⟩ := h.tmp t x (hT t x hx); exact ⟨y, h1, VX.mono hc hw _ _ h2⟩⟩

theorem Mem.at {P : Program} {fx : Fx} {cx : Cx} {σ : St} {w : World} (h : Mem P fx cx σ w) {k : Nat} {b : Blk} (hk : σ.L[k]? = some (some b)) : ∃ p, At cx σ k b p ∧ BlkOk P cx w p b := by
  obtain ⟨p, h1, h2⟩ := h.blk k b hk
  exact ⟨p, ⟨hk, h1⟩, h2⟩

theorem RowOk.v {P : Program} {cx : Cx} {w : World} {p : Plc} {b : Blk} (h : RowOk P cx w p b) : (p.v = .slice none 0 0 ∧ b.n = 0 ∧ b.cs = []) ∨
    ∃ g cap cur, p.v = .slice (some ⟨g, 0, none⟩) b.n cap ∧ w.heap[g]? = some (.cells cur b.t (0, 0)) ∧ b.n ≤ cap ∧ cap ≤ maxLen ∧ cur.size = cap * p.sz ∧ TRl cx.R w b.cs (cur.toList.take (b.n * p.sz)) ∧ b.cs.length = b.n * p.sz := by
  obtain ⟨xs, ⟨h1, h2⟩, h3⟩ := h.ex
  have hl := h3.length
  rcases h2 with ⟨h2, hn⟩ | ⟨g, cap, cur, h4, _, h5, h6, h7, h8, h9⟩
  · refine .inl ⟨h2, hn, List.eq_nil_of_length_eq_zero ?_⟩
    rw [← hl, h1, hn]; simp
  · refine .inr ⟨g, cap, cur, h4, h5, h6, h7, h8, by rw [h9]; exact h3, ?_⟩
    rw [← hl, h1]
theorem RowOk.len {P : Program} {cx : Cx} {w : World} {p : Plc} {b : Blk} (h : RowOk P cx w p b) : b.cs.length = b.n * p.sz := by
  rcases h.v with ⟨_, hn, hc⟩ | ⟨_, _, _, _, _, _, _, _, _, hl⟩
  · rw [hn, hc]; simp
  · exact hl

theorem BlkOk.keepsT {P : Program} {cx cx' : Cx} {w w' : World} {p : Plc} {b : Blk} (h : BlkOk P cx w p b) (hV : ∀ (x : IV) (y : Value), VX cx w x y → VX cx' w' x y) (hT : ∀ (x : IV) (y : Value), TR cx.R w x y → TR cx'.R w' x y)
    (hw : ∀ x ∈ b.rng p, Keeps w w' x) : BlkOk P cx' w' p b := by
  rcases h with ⟨hr, h⟩ | ⟨hr, hf, h⟩ | ⟨hr, hf, hl, h | h | h⟩
  rotate_left 2
  · refine .inr (.inr ⟨hr, hf, hl, .inl ?_⟩)
    obtain ⟨g, es, clock, h1, h2, h3⟩ := h.ex
    exact ⟨⟨g, es, clock, h1, by rw [show w'.heap[g]? = w.heap[g]? from hw (.blk g) (by simp [Blk.rng, h1])]; exact h2, h3⟩, h.t⟩
  · refine .inr (.inr ⟨hr, hf, hl, .inr (.inl ⟨?_, h.info, h.sz, h.t⟩)⟩)
    obtain ⟨g, cap, cur, h1, h2, h3, h4, h5, h7⟩ := h.ex
    refine ⟨g, cap, cur, h1, by rw [show w'.heap[g]? = w.heap[g]? from hw (.blk g) (by simp [Blk.rng, h1])]; exact h2, h3, h4, h5, fun i x hx => ?_⟩
    obtain ⟨y, g1, g2, g3⟩ := h7 i x hx
    exact ⟨y, g1, hV _ _ g2, g3⟩
  · refine .inr (.inr ⟨hr, hf, hl, .inr (.inr ⟨?_, h.t, h.len⟩)⟩)
    obtain ⟨ptrs, os, h1, h2, h3⟩ := h.ex
    exact ⟨ptrs, os, h1, BRl.keepsT hT _ _ _ (fun z hz => hw z (by simp only [Blk.rng, h1, decO_enc]; exact hz)) h2, h3⟩
  · refine .inl ⟨hr, ?_, h.info, h.flat⟩
    obtain ⟨xs, ⟨h1, h2⟩, h3⟩ := h.ex
    refine ⟨xs, ⟨h1, h2.imp id ?_⟩, TRl.map hT h3⟩
    rintro ⟨g, cap, cur, h4, h0, h5, h6⟩
    refine ⟨g, cap, cur, h4, h0, ?_, h6⟩
    rw [show w'.heap[g]? = w.heap[g]? from hw (.blk g) (by simp [Blk.rng, h4])]
    exact h5
  · refine .inr (.inl ⟨hr, hf, ?_⟩)
    obtain ⟨g, d, arr, T, h1, h2, h3, h4⟩ := h.ex
    obtain ⟨arr', k1, k2, k3⟩ := hw (.rng g d b.cs.length) (by simp [Blk.rng, h1]) arr T (0, 0) h2
    refine ⟨h.fl, g, d, arr', T, h1, k1, by rw [k2]; exact h3, fun i x hx => ?_⟩
    obtain ⟨y, g1, g2, g3⟩ := h4 i x hx
    have hi : i < b.cs.length := (List.getElem?_eq_some_iff.1 hx).1
    exact ⟨y, by rw [k3 i hi]; exact g1, hV _ _ g2, g3⟩

theorem BlkOk.mono {P : Program} {cx cx' : Cx} {w w' : World} {p : Plc} {b : Blk} (h : BlkOk P cx w p b) (hc : cx.le cx') (hR : HeapEq cx.R w w')
    (hw : ∀ x ∈ b.rng p, Keeps w w' x) : BlkOk P cx' w' p b := h.keepsT (fun x y => VX.mono hc hR x y) (fun x y => TR.mono hc.R hR x y) hw
theorem BlkOk.lt {P : Program} {cx : Cx} {w : World} {p : Plc} {b : Blk} (h : BlkOk P cx w p b) : ∀ x ∈ b.rng p, x.b < w.heap.size := by
  intro x hx
  rcases h with ⟨_, h⟩ | ⟨_, _, h⟩ | h
  rotate_left 2
  · exact h.lt x hx
  · rcases h.v with ⟨h1, _⟩ | ⟨g, cap, cur, h1, h2, _⟩
    · simp [Blk.rng, h1] at hx
    · simp [Blk.rng, h1] at hx; subst hx; exact lt_of_heap h2
  · obtain ⟨g, d, arr, T, h1, h2, _⟩ := h.ex
    simp [Blk.rng, h1] at hx; subst hx; exact lt_of_heap h2
theorem Mem.lt {P : Program} {fx : Fx} {cx : Cx} {σ : St} {w : World} (h : Mem P fx cx σ w) {k : Nat} {b : Blk} {p : Plc} (hk : At cx σ k b p) : ∀ x ∈ b.rng p, ∀ bb o, x.has bb o → bb < w.heap.size := by
  intro x hx bb o hh
  obtain ⟨p', h1, h2⟩ := h.blk k b hk.1
  have : p = p' := by have := hk.2.symm.trans h1; simpa using this
  subst this
  rw [OwnR.has_b hh]; exact h2.lt x hx

def ChOwn (cx : Cx) (σ : St) (ch : Nat → Prop) (bb o : Nat) : Prop := ∃ k b p x, ch k ∧ At cx σ k b p ∧ x ∈ b.rng p ∧ x.has bb o

theorem Mem.step {P : Program} {fx : Fx} {cx cx' : Cx} {σ σ' : St} {w w' : World} {os1 : List OwnR} (h : Mem P fx cx σ w) (ch : Nat → Prop) (hf : Fr w w' os1)
    (h2 : ∀ bb o, Owns os1 bb o → ∃ k b p x, ch k ∧ At cx σ k b p ∧ b.frz = false ∧ x ∈ b.rng p ∧ x.has bb o)
    (hc : cx.le cx')
    (h3 : ∀ bb, cx'.R bb → bb < w'.heap.size ∧ (cx.R bb ∨ (∃ k b p, ch k ∧ At cx σ k b p ∧ OwnR.blk bb ∈ b.rng p) ∨ w.heap.size ≤ bb))
    (h4 : ∀ k b, ¬ ch k → σ'.L[k]? = some (some b) → σ.L[k]? = some (some b))
    (h5 : ∀ k b, ch k → σ'.L[k]? = some (some b) → ∃ p, cx'.pl k b.ver = some p ∧ BlkOk P cx' w' p b ∧ ∀ x ∈ b.rng p, ∀ bb o, x.has bb o →
      (ChOwn cx σ ch bb o ∨ w.heap.size ≤ bb) ∧ (b.frz = false → ¬ cx'.R bb) ∧ (b.frz = true → cx'.R bb))
    (h6 : ∀ k k' b b' p p', ch k → ch k' → At cx' σ' k b p → At cx' σ' k' b' p' → k ≠ k' → ∀ x ∈ b.rng p, ∀ y ∈ b'.rng p', x.apart y)
    (h7 : ∀ k ver p, cx'.pl k ver = some p → k < σ'.L.length ∧ ∀ b, σ'.L[k]? = some (some b) → ver ≤ b.ver) : Mem P fx cx' σ' w' := by
  have hRn : ∀ bb o, cx.R bb → ¬ Owns os1 bb o := fun bb o hb ho => by
    obtain ⟨k, b, p, x, _, g2, g3, g4, g5⟩ := h2 bb o ho
    exact (h.nor k b p g2 x g4 bb o g5).1 g3 hb
  have hR : HeapEq cx.R w w' := fun bb hb => hf.hblk bb (h.rlt bb hb) fun o => hRn bb o hb
  -- an unchanged block, aL it was and is
  have hun : ∀ k b, ¬ ch k → σ'.L[k]? = some (some b) → ∃ p, At cx σ k b p ∧ cx'.pl k b.ver = some p ∧ BlkOk P cx' w' p b := fun k b hk hb => by
    obtain ⟨p, a1, a2⟩ := h.at (h4 k b hk hb)
    refine ⟨p, a1, hc.pl _ _ _ a1.2, a2.mono hc hR fun x hx => hf.keeps (fun bb o hh ho => ?_) (a2.lt x hx)⟩
    obtain ⟨k', b', p', y, g1, g2, g3, g4, g5⟩ := h2 bb o ho
    exact h.dis k k' b b' p p' a1 g2 (fun e => hk (e ▸ g1)) x hx y g4 bb o hh g5
  have hfrom : ∀ k b p, ch k → At cx' σ' k b p → ∀ x ∈ b.rng p, ∀ bb o, x.has bb o → (ChOwn cx σ ch bb o ∨ w.heap.size ≤ bb) ∧ (b.frz = false → ¬ cx'.R bb) ∧ (b.frz = true → cx'.R bb) := fun k b p hk ha => by
    obtain ⟨p', g1, _, g3⟩ := h5 k b hk ha.1
    have : p = p' := by have := ha.2.symm.trans g1; simpa using this
    subst this; exact g3
  have huf : ∀ k b p, ¬ ch k → At cx' σ' k b p → At cx σ k b p := fun k b p hk ha => by
    obtain ⟨p', g1, g2, _⟩ := hun k b hk ha.1
    have : p = p' := by have := ha.2.symm.trans g2; simpa using this
    subst this; exact g1
  have hcu : ∀ k k' b b' p p', ch k → ¬ ch k' → At cx' σ' k b p → At cx' σ' k' b' p' → ∀ x ∈ b.rng p, ∀ y ∈ b'.rng p', x.apart y := fun k k' b b' p p' hk hk' ha ha' x hx y hy bb o hh hh' => by
    have hu := huf k' b' p' hk' ha'
    rcases (hfrom k b p hk ha x hx bb o hh).1 with ⟨k0, b0, p0, z, g1, g2, g3, g4⟩ | hge
    · exact h.dis k0 k' b0 b' p0 p' g2 hu (fun e => hk' (e ▸ g1)) z g3 y hy bb o g4 hh'
    · have := h.lt hu y hy bb o hh'; omega
  refine ⟨?_, h7, ?_, ?_, ?_, fun bb hb => (h3 bb hb).1, ?_, fun b hb => hc.R b (h.r0 b hb), ?_, fun k p hp => hc.pl _ _ _ (h.par k p hp)⟩
  · intro k b hb
    by_cases hk : ch k
    · obtain ⟨p, g1, g2, _⟩ := h5 k b hk hb; exact ⟨p, g1, g2⟩
    · obtain ⟨p, _, g2, g3⟩ := hun k b hk hb; exact ⟨p, g2, g3⟩
  · intro k k' b b' p p' ha ha' hne
    by_cases hk : ch k <;> by_cases hk' : ch k'
    · exact h6 k k' b b' p p' hk hk' ha ha' hne
    · exact hcu k k' b b' p p' hk hk' ha ha'
    · intro x hx y hy bb o hh hh'
      exact hcu k' k b' b p' p hk' hk ha' ha y hy x hx bb o hh' hh
    · exact h.dis k k' b b' p p' (huf k b p hk ha) (huf k' b' p' hk' ha') hne
  · intro k b p ha x hx bb o hh
    by_cases hk : ch k
    · exact (hfrom k b p hk ha x hx bb o hh).2
    · have hu := huf k b p hk ha
      have hn := h.nor k b p hu x hx bb o hh
      refine ⟨fun hfz hR' => ?_, fun hfz => hc.R bb (hn.2 hfz)⟩
      rcases (h3 bb hR').2 with hr | ⟨k0, b0, p0, g1, g2, g3⟩ | hge
      · exact hn.1 hfz hr
      · exact h.dis k k0 b b0 p p0 hu g2 (fun e => hk (e ▸ g1)) x hx _ g3 bb o hh rfl
      · have := h.lt hu x hx bb o hh; omega
  · intro k b p ha x hx bb o hh
    by_cases hk : ch k
    · rcases (hfrom k b p hk ha x hx bb o hh).1 with ⟨k0, b0, p0, z, g1, g2, g3, g4⟩ | hge
      · exact h.wit k0 b0 p0 g2 z g3 bb o g4
      · exact .inr (Nat.le_trans h.fr.hsize hge)
    · exact h.wit k b p (huf k b p hk ha) x hx bb o hh
  · intro bb hb
    rcases (h3 bb hb).2 with hr | ⟨k0, b0, p0, g1, g2, g3⟩ | hge
    · exact h.rin bb hr
    · by_cases hz : fx.w0.heap.size ≤ bb
      · exact .inr (.inr hz)
      · exact .inr (.inl fun o => (h.wit k0 b0 p0 g2 _ g3 bb o rfl).resolve_right hz)
    · exact .inr (.inr (Nat.le_trans h.fr.hsize hge))
  · exact h.fr.trans hf fun bb o ho => by
      obtain ⟨k, b, p, x, _, g2, _, g4, g5⟩ := h2 bb o ho
      exact h.wit k b p g2 x g4 bb o g5
end Go.Lift
/- Changes of a frame's memory: growth, a new block, a block that turns, a block that is only read from now on. -/
namespace Go.Lift
open Go Go.RowKit

def Cx.add (cx : Cx) (k ver : Nat) (p : Plc) : Cx := { cx with pl := fun k' ver' => if k' = k ∧ ver' = ver then some p else cx.pl k' ver' }
theorem Cx.add_get (cx : Cx) (k ver : Nat) (p : Plc) : (cx.add k ver p).pl k ver = some p := by simp [Cx.add]
theorem Cx.add_le {cx : Cx} {k ver : Nat} {p : Plc} (h : cx.pl k ver = none ∨ cx.pl k ver = some p) : cx.le (cx.add k ver p) := by
  refine ⟨fun k' ver' p' hp => ?_, fun _ h => h⟩
  simp only [Cx.add]
  split
  · rename_i e
    obtain ⟨rfl, rfl⟩ := e
    rcases h with h | h <;> rw [h] at hp <;> simp_all
  · exact hp

theorem Mem.grow {P : Program} {fx : Fx} {cx : Cx} {σ : St} {w w' : World} (h : Mem P fx cx σ w) (hf : Fr w w' []) (R' : Nat → Prop) (hR : ∀ b, cx.R b → R' b)
    (hR' : ∀ b, R' b → cx.R b ∨ w.heap.size ≤ b ∧ b < w'.heap.size) : Mem P fx { cx with R := R' } σ w' := by
  refine h.step (fun _ => False) hf (fun bb o ⟨r, hr, _⟩ => by simp at hr) ⟨fun _ _ _ h => h, hR⟩ ?_ (fun k b _ hb => hb) (fun _ _ hf => hf.elim) (fun _ _ _ _ _ _ hf => hf.elim) h.plok
  intro bb hb
  rcases hR' bb hb with h' | ⟨h1, h2⟩
  · exact ⟨Nat.lt_of_lt_of_le (h.rlt bb h') hf.hsize, .inl h'⟩
  · exact ⟨h2, .inr (.inr h1)⟩
theorem Mem.grow' {P : Program} {fx : Fx} {cx : Cx} {σ : St} {w w' : World} (h : Mem P fx cx σ w) (hf : Fr w w' []) : Mem P fx cx σ w' :=
  h.grow hf cx.R (fun _ h => h) fun _ h => .inl h
theorem Mem.heapEq {P : Program} {fx : Fx} {cx : Cx} {σ : St} {w w' : World} (h : Mem P fx cx σ w) (hf : Fr w w' []) : HeapEq cx.R w w' :=
  fun b hb => hf.hblk b (h.rlt b hb) fun o ⟨r, hr, _⟩ => by simp at hr

theorem Mem.none_at {P : Program} {fx : Fx} {cx : Cx} {σ : St} {w : World} (h : Mem P fx cx σ w) (ver : Nat) : cx.pl σ.L.length ver = none := by
  cases hp : cx.pl σ.L.length ver with
  | none => rfl
  | some p => have := (h.plok _ _ _ hp).1; omega

theorem Mem.push {P : Program} {fx : Fx} {cx : Cx} {σ : St} {w w' : World} (h : Mem P fx cx σ w) (hf : Fr w w' []) (b : Blk) (p : Plc)
    (hok : BlkOk P cx w' p b) (hz : b.frz = false) (hr : ∀ x ∈ b.rng p, ∀ bb o, x.has bb o → w.heap.size ≤ bb) :
    Mem P fx (cx.add σ.L.length b.ver p) { σ with L := σ.L ++ [some b] } w' := by
  have hle : cx.le (cx.add σ.L.length b.ver p) := Cx.add_le (.inl (h.none_at _))
  refine h.step (fun k => k = σ.L.length) hf (fun bb o ⟨r, hr, _⟩ => by simp at hr) hle ?_ ?_ ?_ ?_ ?_
  · intro bb hb
    exact ⟨Nat.lt_of_lt_of_le (h.rlt bb hb) hf.hsize, .inl hb⟩
  · intro k b' hk hb
    simp only [List.getElem?_append] at hb
    split at hb
    · exact hb
    · rename_i hlt
      have : k - σ.L.length ≠ 0 := by omega
      obtain ⟨j, hj⟩ := Nat.exists_eq_succ_of_ne_zero this
      simp [hj] at hb
  · rintro k b' rfl hb
    simp at hb
    subst hb
    refine ⟨p, Cx.add_get _ _ _ _, hok.mono hle (fun b hb => rfl) (fun x hx => ?_), fun x hx bb o hh => ?_⟩
    · exact (Fr.refl w' []).keeps (fun b o _ ⟨r, hr, _⟩ => by simp at hr) (hok.lt x hx)
    · have hge := hr x hx bb o hh
      exact ⟨.inr hge, fun _ hR => by have := h.rlt bb hR; omega, fun hf => by rw [hz] at hf; cases hf⟩
  · intro k k' b b' p p' hk hk' _ _ hne
    exact absurd (hk.trans hk'.symm) hne
  · intro k ver q hq
    simp only [Cx.add] at hq
    split at hq
    · rename_i e
      obtain ⟨rfl, rfl⟩ := e
      refine ⟨by simp, fun b' hb' => ?_⟩
      simp at hb'; subst hb'; exact Nat.le_refl _
    · have := h.plok k ver q hq
      refine ⟨by simp; omega, fun b' hb' => this.2 b' ?_⟩
      rwa [List.getElem?_append_left this.1] at hb'

theorem Mem.turn {P : Program} {fx : Fx} {cx : Cx} {σ : St} {w w' : World} (h : Mem P fx cx σ w) {k : Nat} {b : Blk} {p : Plc} (hk : At cx σ k b p) (hz : b.frz = false)
    (hf : Fr w w' (b.rng p)) (b' : Blk) (p' : Plc) (hv : (b'.ver = b.ver ∧ p' = p) ∨ b'.ver = b.ver + 1) (R' : Nat → Prop) (hR : ∀ b, cx.R b → R' b)
    (hR' : ∀ bb, R' bb → cx.R bb ∨ (OwnR.blk bb ∈ b.rng p ∨ w.heap.size ≤ bb) ∧ bb < w'.heap.size)
    (hok : BlkOk P { cx.add k b'.ver p' with R := R' } w' p' b')
    (hr : ∀ x ∈ b'.rng p', ∀ bb o, x.has bb o → ((∃ y ∈ b.rng p, y.has bb o) ∨ w.heap.size ≤ bb) ∧ (b'.frz = false → ¬ R' bb) ∧ (b'.frz = true → R' bb)) :
    Mem P fx { cx.add k b'.ver p' with R := R' } { σ with L := σ.L.set k (some b') } w' := by
  have hlt : k < σ.L.length := (List.getElem?_eq_some_iff.1 hk.1).1
  have hle : cx.le { cx.add k b'.ver p' with R := R' } := by
    refine ⟨(Cx.add_le ?_).pl, hR⟩
    rcases hv with ⟨e1, e2⟩ | e
    · exact .inr (by rw [e1, e2]; exact hk.2)
    · refine .inl ?_
      cases hp : cx.pl k b'.ver with
      | none => rfl
      | some q => have := (h.plok _ _ _ hp).2 b hk.1; omega
  refine h.step (fun j => j = k) hf ?_ hle ?_ ?_ ?_ ?_ ?_
  · rintro bb o ⟨r, hr', hh⟩
    exact ⟨k, b, p, r, rfl, hk, hz, hr', hh⟩
  · intro bb hb
    rcases hR' bb hb with h' | ⟨h', hl⟩
    · exact ⟨Nat.lt_of_lt_of_le (h.rlt bb h') hf.hsize, .inl h'⟩
    · exact ⟨hl, .inr (h'.imp (fun e => ⟨k, b, p, rfl, hk, e⟩) id)⟩
  · intro j c hj hc
    simp only [List.getElem?_set] at hc
    rwa [if_neg (fun e => hj e.symm)] at hc
  · rintro j c rfl hc
    simp [hlt] at hc
    subst hc
    refine ⟨p', by simp [Cx.add], hok, fun x hx bb o hh => ?_⟩
    obtain ⟨g1, g2⟩ := hr x hx bb o hh
    exact ⟨g1.imp (fun ⟨y, hy, hyh⟩ => ⟨j, b, p, y, rfl, hk, hy, hyh⟩) id, g2⟩
  · intro j j' c c' q q' hj hj' _ _ hne
    exact absurd (hj.trans hj'.symm) hne
  · intro j ver q hq
    simp only [Cx.add] at hq
    split at hq
    · rename_i e
      obtain ⟨rfl, rfl⟩ := e
      refine ⟨by simpa using hlt, fun c hc => ?_⟩
      simp [hlt] at hc; subst hc; exact Nat.le_refl _
    · have := h.plok j ver q hq
      refine ⟨by simpa using this.1, fun c hc => ?_⟩
      simp only [List.getElem?_set] at hc
      split at hc
      · rename_i e
        subst e
        simp at hc
        obtain ⟨_, rfl⟩ := hc
        have h1 := this.2 b hk.1
        rcases hv with ⟨e1, _⟩ | e1 <;> omega
      · exact this.2 c hc

theorem Mem.sub {P : Program} {fx : Fx} {cx : Cx} {σ σ' : St} {w : World} (h : Mem P fx cx σ w) (hl : σ'.L.length = σ.L.length) (hs : ∀ (k : Nat) (b : Blk), σ'.L[k]? = some (some b) → σ.L[k]? = some (some b)) : Mem P fx cx σ' w := by
  have ha : ∀ k b p, At cx σ' k b p → At cx σ k b p := fun k b p h' => ⟨hs k b h'.1, h'.2⟩
  refine ⟨fun k b hb => h.blk k b (hs k b hb), fun k ver p hp => ?_, fun k k' b b' p p' h1 h2 => h.dis k k' b b' p p' (ha _ _ _ h1) (ha _ _ _ h2), fun k b p h1 => h.nor k b p (ha _ _ _ h1),
    fun k b p h1 => h.wit k b p (ha _ _ _ h1), h.rlt, h.rin, h.r0, h.fr, h.par⟩
  have := h.plok k ver p hp
  exact ⟨by rw [hl]; exact this.1, fun b hb => this.2 b (hs k b hb)⟩
theorem Mem.sameL {P : Program} {fx : Fx} {cx : Cx} {σ σ' : St} {w : World} (h : Mem P fx cx σ w) (hl : σ'.L = σ.L) : Mem P fx cx σ' w :=
  h.sub (by rw [hl]) (fun k b hb => by rw [hl] at hb; exact hb)
end Go.Lift
/- The evaluator: what an operation makes of an ideal state. -/
namespace Go.Lift
open Go Go.RowKit

inductive TD where
  | oth
  | float
  | bool
  | str
  | slice (e : TypeId)
  | arr (n : Nat) (e : TypeId)
  | struct (fs : List (Nat × TypeId))
  deriving Inhabited
inductive ZC where
  | v (x : Value)
  | row (e : TypeId)
inductive CK where
  | complex
  | int (k : IntKind)
  | str
  | bool
structure TI where
  num : Option IntKind
  eqk : Option (List CK)
  size : Nat
  bytes : Nat
  isA : Bool
  flat : Bool
  zero : List ZC
  desc : TD
abbrev TTab := TypeId → Option TI

def feq (a b : Nat) : Bool := FloatKind.f64.format.order a b == some .eq
def eqVals : List CK → List Value → List Value → Option Bool
  | [], [], [] => some true
  | .complex :: ks, .complex .f64 a b :: xs, .complex .f64 c d :: ys => (eqVals ks xs ys).map (fun r => (feq a c && feq b d) && r)
  | .int k :: ks, .int k' a :: xs, .int k'' b :: ys => if k' = k ∧ k'' = k then (eqVals ks xs ys).map (fun r => a == b && r) else none
  | .str :: ks, .string a :: xs, .string b :: ys => (eqVals ks xs ys).map (fun r => a.toList == b.toList && r)
  | .bool :: ks, .bool a :: xs, .bool b :: ys => (eqVals ks xs ys).map (fun r => a == b && r)
  | _, _, _ => none

theorem eqVals_complex {ks : List CK} {x y : Value} {xs ys : List Value} {r : Bool} (h : eqVals (.complex :: ks) (x :: xs) (y :: ys) = some r) : ∃ a b c d r', x = .complex .f64 a b ∧ y = .complex .f64 c d ∧ eqVals ks xs ys = some r' ∧ r = ((feq a c && feq b d) && r') := by
  cases x <;> cases y <;> try (simp [eqVals] at h; done)
  rename_i k a b k' c d
  cases k <;> cases k' <;> try (simp [eqVals] at h; done)
  rw [eqVals, Option.map_eq_some_iff] at h
  obtain ⟨r', h1, rfl⟩ := h
  exact ⟨a, b, c, d, r', rfl, rfl, h1, rfl⟩
def ZC.iv : ZC → IV
  | .v x => .v x
  | .row _ => .emp
def zOk : List ZC → List Value → Prop
  | [], ys => ys = []
  | z :: zs, ys => ∃ y ys', ys = y :: ys' ∧ (match z with | .v x => y = x ∧ x.oneCell' = true | .row _ => y = .slice none 0 0) ∧ zOk zs ys'
theorem zOk.length : ∀ {zs : List ZC} {ys : List Value}, zOk zs ys → ys.length = zs.length
  | [], ys, h => by simp [zOk] at h; subst h; rfl
  | z :: zs, ys, h => by unfold zOk at h; obtain ⟨_, ys', rfl, _, h'⟩ := h; simp [zOk.length h']
def DescOk : TD → TypeDesc → Prop
  | .oth, _ => True
  | .float, d => d = .float .f64
  | .bool, d => d = .bool
  | .str, d => d = .string
  | .slice e, d => d = .slice e
  | .arr n e, d => d = .array n e
  | .struct fs, d => ∃ gs : Array Field, d = .struct gs ∧ gs.toList.map (fun f => (f.offset, f.type)) = fs
def isAggD : TypeDesc → Bool
  | .struct _ => true
  | .array _ _ => true
  | _ => false
structure TIok (P : Program) (t : TypeId) (i : TI) : Prop where
  info : ∃ j, P.info? t = some j ∧ j.size = i.size ∧ j.bytes = i.bytes ∧ ∃ z, j.zero = some z ∧ zOk i.zero z.cells.toList
  num : ∀ k, i.num = some k → P.underlying t = some (.int k)
  zlen : i.zero.length = i.size
  pos : 0 < i.size
  desc : ∃ d, P.underlying t = some d ∧ DescOk i.desc d ∧ isAggD d = i.isA
  eqk : ∀ ks, i.eqk = some ks → P.eqGuardType P.depth t = false ∧ ∀ (w : World) (ax ay : Array Value) (r : Bool), eqVals ks ax.toList ay.toList = some r → (Op.equalIn Op.maxDepth t (.agg ax) (.agg ay)).run P w = .ok r w
def TTok (P : Program) (TT : TTab) : Prop := ∀ t i, TT t = some i → TIok P t i

def ofS : Value → Option IV
  | .slice none 0 0 => some .emp
  | .slice _ _ _ => none
  | .pointer (some _) => none
  | .map (some _) => none
  | .chan (some _) => none
  | .func _ _ _ => none
  | .iface _ _ => none
  | .agg _ => none
  | .tuple _ => none
  | .bool b => some (.v (.bool b))
  | .int k n => some (.v (.int k n))
  | .float k b => some (.v (.float k b))
  | .complex k a b => some (.v (.complex k a b))
  | .string s => some (.v (.string s))
  | .pointer none => some (.v (.pointer none))
  | .map none => some (.v (.map none))
  | .chan none => some (.v (.chan none))
  | .nilFunc => some (.v .nilFunc)
  | .nilIface => some (.v .nilIface)
def ofSs : List Value → Option (List IV)
  | [] => some []
  | x :: xs => match ofS x, ofSs xs with
    | some y, some ys => some (y :: ys)
    | _, _ => none
def ofV : Value → Option IV
  | .agg cs => (ofSs cs.toList).map .agg
  | x => ofS x
def ev (σ : St) : Operand → Option IV
  | .tmp t => lk σ.T t
  | .const c => ofV c
  | .func f => some (.fn (.func f) [])
  | .global _ => none

def blkAt (L : List (Option Blk)) (k ver : Nat) : Option Blk :=
  match L[k]? with
  | some (some b) => if b.ver = ver then some b else none
  | _ => none

def pbin (op : BinOp) : Value → Value → Option Value
  | .int k a, .int k' b => match op with
    | .shl => if 0 ≤ b then some (.int k (k.wrap (a * 2 ^ min b.toNat k.bits))) else none
    | .shr => if 0 ≤ b then some (.int k (a.fdiv (2 ^ min b.toNat k.bits))) else none
    | .add => if k = k' then some (.int k (k.wrap (a + b))) else none
    | .sub => if k = k' then some (.int k (k.wrap (a - b))) else none
    | .mul => if k = k' then some (.int k (k.wrap (a * b))) else none
    | .quo => if k = k' then if b = 0 then none else some (.int k (k.wrap (a.tdiv b))) else none
    | .rem => if k = k' then if b = 0 then none else some (.int k (a.tmod b)) else none
    | .and => if k = k' then some (.int k (bits .and k a b)) else none
    | .or => if k = k' then some (.int k (bits .or k a b)) else none
    | .xor => if k = k' then some (.int k (bits .xor k a b)) else none
    | .andNot => if k = k' then some (.int k (bits .andNot k a b)) else none
    | .eql => if k = k' then some (.bool (a == b)) else none
    | .neq => if k = k' then some (.bool (a != b)) else none
    | .lss => if k = k' then some (.bool (a < b)) else none
    | .leq => if k = k' then some (.bool (a ≤ b)) else none
    | .gtr => if k = k' then some (.bool (a > b)) else none
    | .geq => if k = k' then some (.bool (a ≥ b)) else none
  | .string a, .string b => match op with
    | .add => if a.size + b.size ≤ 9223372036854775807 then some (.string (a ++ b)) else none
    | .eql => some (.bool (a.toList == b.toList))
    | .neq => some (.bool (!(a.toList == b.toList)))
    | .lss => some (.bool (Op.bytesLess a.toList b.toList))
    | .leq => some (.bool (Op.bytesLess a.toList b.toList || a.toList == b.toList))
    | .gtr => some (.bool (!(Op.bytesLess a.toList b.toList || a.toList == b.toList)))
    | .geq => some (.bool (!(Op.bytesLess a.toList b.toList)))
    | _ => none
  | .complex .f64 a b, .complex .f64 c d => match op with
    | .add => (cSumBits .add .f64 a b c d).map fun p => .complex .f64 p.1 p.2
    | .sub => (cSumBits .sub .f64 a b c d).map fun p => .complex .f64 p.1 p.2
    | .mul => (cMulBits a b c d).map fun p => .complex .f64 p.1 p.2
    | .eql => some (.bool (feq a c && feq b d))
    | .neq => some (.bool (!(feq a c && feq b d)))
    | _ => none
  | .float .f64 a, .float .f64 b => match op with
    | .add => (floatBits .add .f64 a b).map (.float .f64 ·)
    | .sub => (floatBits .sub .f64 a b).map (.float .f64 ·)
    | .mul => (floatBits .mul .f64 a b).map (.float .f64 ·)
    | .eql => some (.bool (FloatKind.f64.format.order a b == some .eq))
    | .neq => some (.bool (FloatKind.f64.format.order a b != some .eq))
    | .lss => some (.bool (FloatKind.f64.format.order a b == some .lt))
    | .leq => some (.bool (FloatKind.f64.format.order a b == some .lt || FloatKind.f64.format.order a b == some .eq))
    | .gtr => some (.bool (FloatKind.f64.format.order a b == some .gt))
    | .geq => some (.bool (FloatKind.f64.format.order a b == some .gt || FloatKind.f64.format.order a b == some .eq))
    | _ => none
  | _, _ => none
def pboolEq (op : BinOp) (a b : Bool) : Option Value :=
  match op with
  | .eql => some (.bool (a == b))
  | .neq => some (.bool (!(a == b)))
  | _ => none
def fmin (a b : Nat) : Option Nat :=
  match FloatKind.f64.format.order a b with
  | some .lt => some a
  | some .gt => some b
  | some .eq => some (if (FloatKind.f64.decode a).neg = true then a else b)
  | none => none
def fmax (a b : Nat) : Option Nat :=
  match FloatKind.f64.format.order a b with
  | some .lt => some b
  | some .gt => some a
  | some .eq => some (if (FloatKind.f64.decode a).neg = true then b else a)
  | none => none
def pun (op : UnOp) : Value → Option Value
  | .int k n => match op with
    | .neg => some (.int k (k.wrap (0 - n)))
    | .xor => some (.int k (bits .xor k (if k.signed then -1 else k.max) n))
    | _ => none
  | .bool b => match op with
    | .not => some (.bool (!b))
    | _ => none
  | .float k b => match op with
    | .neg => some (.float k (Op.negFloat k b))
    | _ => none
  | .complex k a b => match op with
    | .neg => some (.complex k (Op.negFloat k a) (Op.negFloat k b))
    | _ => none
  | _ => none
def eqCells : List CK → List IV → List IV → Option Bool
  | [], [], [] => some true
  | .complex :: ks, .v (.complex .f64 a b) :: xs, .v (.complex .f64 c d) :: ys => (eqCells ks xs ys).map (fun r => (feq a c && feq b d) && r)
  | .int k :: ks, .v (.int k' a) :: xs, .v (.int k'' b) :: ys => if k' = k ∧ k'' = k then (eqCells ks xs ys).map (fun r => a == b && r) else none
  | .str :: ks, .v (.string a) :: xs, .v (.string b) :: ys => (eqCells ks xs ys).map (fun r => a.toList == b.toList && r)
  | .bool :: ks, .v (.bool a) :: xs, .v (.bool b) :: ys => (eqCells ks xs ys).map (fun r => a == b && r)
  | _, _, _ => none
def cellsOf : IV → List IV
  | .agg cs => cs
  | x => [x]
def isScalar : IV → Bool
  | .v x => x.oneCell'
  | .emp => true
  | .tr _ _ => true
  | .sl _ _ _ _ => true
  | .ptr _ _ _ => true
  | .fn _ _ => true
  | .mp _ _ => true
  | .el _ _ _ => true
  | _ => false
def isCell : IV → Bool
  | .agg _ => true
  | v => isScalar v
def isTree : IV → Bool
  | .v x => x.oneCell'
  | .emp => true
  | .tr _ _ => true
  | _ => false
def isV : IV → Bool
  | .v _ => true
  | _ => false
def putAt (cs : List IV) (o : Nat) : List IV → List IV
  | [] => cs
  | x :: xs => putAt (cs.set o x) (o + 1) xs

def zeroObj (L : List (Option Blk)) (TT : TTab) : List ZC → Option (List IV × List (Option Blk))
  | [] => some ([], [])
  | .v x :: zs => (zeroObj L TT zs).map fun (cs, rs) => (.v x :: cs, rs)
  | .row e :: zs => match TT e, zeroObj L TT zs with
    | some i, some (cs, rs) => some (.sl (L.length + rs.length) 0 0 0 :: cs, rs ++ [some ⟨true, e, 0, i.flat, [], 0, false⟩])
    | _, _ => none
def rowObj (L : List (Option Blk)) (TT : TTab) : List ZC → List IV → Option (List IV × List (Option Blk))
  | [], [] => some ([], [])
  | .v _ :: zs, x :: xs => (rowObj L TT zs xs).map fun (cs, rs) => (x :: cs, rs)
  | .row e :: zs, .emp :: xs => match TT e, rowObj L TT zs xs with
    | some i, some (cs, rs) => some (.sl (L.length + rs.length) 0 0 0 :: cs, rs ++ [some ⟨true, e, 0, i.flat, [], 0, false⟩])
    | _, _ => none
  | .row _ :: zs, x :: xs => (rowObj L TT zs xs).map fun (cs, rs) => (x :: cs, rs)
  | _, _ => none
def fillIV (TT : TTab) (fs : List (Nat × TypeId)) (cells : List IV) : List (Nat × IV) → Option (List IV)
  | [] => some cells
  | (i, x) :: rest => match fs[i]? with
    | some (off, t) => match TT t with
      | some it => if (cellsOf x).length = it.size ∧ off + it.size ≤ cells.length ∧ isCell x = true then fillIV TT fs (putAt cells off (cellsOf x)) rest else none
      | none => none
    | none => none
def litCells (size : Nat) : Nat → List (Nat × Operand) → St → Option (List IV)
  | _, [], _ => some []
  | j, (i, x) :: rest, σ => match ev σ x, litCells size (j + 1) rest σ with
    | some a, some r => if i = j ∧ (cellsOf a).length = size ∧ isCell a = true then some (cellsOf a ++ r) else none
    | _, _ => none
def isInt : IV → Option Int
  | .v (.int _ n) => some n
  | _ => none
def bytesOfCells : List IV → Option (List UInt8)
  | [] => some []
  | .v (.int .u8 n) :: xs => (bytesOfCells xs).map (UInt8.ofNat n.toNat :: ·)
  | _ => none
end Go.Lift
/- Operations: what the evaluator says, the machine does. -/
namespace Go.Lift
open Go Go.RowKit

def ob {α : Type} (x : Option α) (f : α → Prop) : Prop :=
  match x with
  | some a => f a
  | none => False
theorem ob_some {α : Type} (a : α) (f : α → Prop) : ob (some a) f = f a := rfl
theorem ob_elim {α : Type} {x : Option α} {f : α → Prop} (h : ob x f) : ∃ a, x = some a ∧ f a := by
  cases x with
  | none => exact h.elim
  | some a => exact ⟨a, rfl, h⟩

def fin (o : Oper) (σ : St) (v : IV) (L' : List (Option Blk)) (K : St → Prop) : Prop :=
  match o.dst with
  | some d => d < σ.N ∧ K { σ with T := (d, v) :: σ.T, L := L' }
  | none => K { σ with L := L' }

section
variable {P : Program} {fx : Fx} {cx : Cx} {σ : St} {a : Act} {w : World}

theorem ofS_sound {c : Value} {v : IV} (h : ofS c = some v) : VX cx w v c := by
  unfold ofS at h
  split at h <;> first | (cases h; done) | (cases h; simp [VX])
theorem ofS_one {c : Value} {v : IV} (h : ofS c = some v) : c.oneCell' = true := by
  unfold ofS at h
  split at h <;> first | (cases h; done) | rfl
theorem ofSs_sound : ∀ {cs : List Value} {vs : List IV}, ofSs cs = some vs → VXl cx w vs cs ∧ ∀ z ∈ cs, z.oneCell' = true
  | [], vs, h => by simp [ofSs] at h; subst h; exact ⟨VXl.nil, by simp⟩
  | c :: cs, vs, h => by
    unfold ofSs at h
    split at h
    · rename_i y ys h1 h2
      cases h
      have := ofSs_sound h2
      exact ⟨VXl.cons (ofS_sound h1) this.1, by simp; exact ⟨ofS_one h1, this.2⟩⟩
    · cases h
theorem ofV_sound {c : Value} {v : IV} (h : ofV c = some v) : VX cx w v c := by
  unfold ofV at h
  split at h
  · rename_i cs
    cases hh : ofSs cs.toList with
    | none => rw [hh] at h; cases h
    | some vs =>
      rw [hh] at h; cases h
      unfold VX
      exact ⟨cs, rfl, ofSs_sound hh⟩
  · exact ofS_sound h
theorem Tmps.eval (h : Tmps cx σ a w) {t : Nat} {x : IV} (hx : lk σ.T t = some x) : VX cx w x (a.eval (.tmp t)) := by
  obtain ⟨y, h1, h2⟩ := h.tmp t x hx
  simp [Act.eval, Array.getD_eq_getD_getElem?, h1]; exact h2
theorem ev_sound (h : Tmps cx σ a w) {x : Operand} {v : IV} (hx : ev σ x = some v) : VX cx w v (a.eval x) := by
  cases x with
  | tmp t => exact h.eval hx
  | const c => exact ofV_sound hx
  | global g => cases hx
  | func f => simp [ev] at hx; subst hx; simp only [VX, Act.eval]; exact ⟨#[], rfl, VXl.nil⟩

theorem fin_sound {o : Oper} {v : IV} {L' : List (Option Blk)} {K : St → Prop} {next : Act → World → Prop} {Q : Exit → Act → World → Prop} {cx' : Cx} {w' : World} {y : Value}
    (hs : Tmps cx σ a w) (hrun : (execOp a.eval o).run P w = .ok (.value y) w') (hle : cx.le cx') (hm : Mem P fx cx' { σ with L := L' } w') (hR : HeapEq cx.R w w') (hv : VX cx' w' v y)
    (hK : fin o σ v L' K) (hn : ∀ σ' cx' a' w', K σ' → cx.le cx' → Sim P fx cx' σ' a' w' → next a' w') : o.wp P a w next Q := by
  unfold Oper.wp
  rw [hrun]
  show next (a.put o.dst y) w'
  unfold fin at hK
  split at hK
  · rename_i d hd
    rw [hd]
    have ht := (hs.mono (σ' := { σ with L := L' }) (fun _ _ h => h) rfl hle hR).put d hK.1 v y hv
    exact hn _ cx' _ _ hK.2 hle ⟨hm.sameL rfl, ht⟩
  · rename_i hd
    rw [hd]
    exact hn _ cx' _ _ hK hle ⟨hm, hs.mono (σ' := { σ with L := L' }) (fun _ _ h => h) rfl hle hR⟩

theorem HeapEq.refl (R : Nat → Prop) (w : World) : HeapEq R w w := fun _ _ => rfl
theorem VX.v_inv {x y : Value} (h : VX cx w (.v x) y) : y = x := by simpa [VX] using h

theorem pure_sound {o : Oper} {v : IV} {K : St → Prop} {next : Act → World → Prop} {Q : Exit → Act → World → Prop} {y : Value}
    (hs : Sim P fx cx σ a w) (hrun : (execOp a.eval o).run P w = .ok (.value y) w) (hv : VX cx w v y)
    (hK : fin o σ v σ.L K) (hn : ∀ σ' cx' a' w', K σ' → cx.le cx' → Sim P fx cx' σ' a' w' → next a' w') : o.wp P a w next Q :=
  fin_sound hs.s hrun (Cx.le_refl cx) (hs.m.sameL rfl) (HeapEq.refl _ _) hv hK hn

theorem pbin_int {op : BinOp} {t : TypeId} {k k' : IntKind} {a b : Int} {z : Value} (h : pbin op (.int k a) (.int k' b) = some z) : (binOp op t (.int k a) (.int k' b)).run P w = .ok z w := by
  by_cases hs : op = .shl ∨ op = .shr
  · rcases hs with rfl | rfl <;> simp only [pbin, Option.ite_none_right_eq_some, Option.some.injEq] at h <;> obtain ⟨hb, rfl⟩ := h <;>
      (have : ¬ b < 0 := by omega) <;> simp [binOp, Op.shift, this]
  · have hk : k = k' := by
      by_cases e : k = k'
      · exact e
      · cases op <;> simp_all [pbin]
    subst hk
    cases op <;> simp [pbin] at h hs <;> first
      | (obtain ⟨hb, rfl⟩ := h; simp [binOp, Op.intDiv, hb]; done)
      | (subst h; simp [binOp, Op.intArith, Op.intCmp, intBits_and, intBits_or, intBits_xor, intBits_andNot])
theorem pbin_str {op : BinOp} {t : TypeId} {a b : ByteArray} {z : Value} (h : pbin op (.string a) (.string b) = some z) : (binOp op t (.string a) (.string b)).run P w = .ok z w := by
  by_cases hs : op = .add
  · subst hs
    simp only [pbin, Option.ite_none_right_eq_some, Option.some.injEq] at h
    obtain ⟨hb, rfl⟩ := h
    have : ¬ ((a.size + b.size : Nat) : Int) > IntKind.i64.max := by
      have : IntKind.i64.max = 9223372036854775807 := by decide
      rw [this]; omega
    simp only [binOp, Op.stringOp]
    rw [if_neg this]; rfl
  · cases op <;> simp [pbin] at h hs <;> (subst h; simp [binOp, Op.stringOp])
theorem pbin_float {op : BinOp} {t : TypeId} {a b : Nat} {z : Value} (h : pbin op (.float .f64 a) (.float .f64 b) = some z) : (binOp op t (.float .f64 a) (.float .f64 b)).run P w = .ok z w := by
  cases op <;> simp [pbin] at h <;> first
    | (obtain ⟨r, h1, rfl⟩ := h; exact run_float_arith w _ t .f64 a b r h1)
    | (subst h; simp [binOp, Op.floatCmp])
theorem floatCmp_eql (a b : Nat) : (Op.floatCmp .eql .f64 a b).run P w = .ok (.bool (feq a b)) w := by simp [Op.floatCmp, feq]
theorem pbin_complex {op : BinOp} {t : TypeId} {a b c d : Nat} {z : Value} (h : pbin op (.complex .f64 a b) (.complex .f64 c d) = some z) : (binOp op t (.complex .f64 a b) (.complex .f64 c d)).run P w = .ok z w := by
  cases op <;> simp [pbin] at h
  · obtain ⟨r, i, h1, rfl⟩ := h; exact run_complex_sum w .add (.inl rfl) t .f64 a b c d r i h1
  · obtain ⟨r, i, h1, rfl⟩ := h; exact run_complex_sum w .sub (.inr rfl) t .f64 a b c d r i h1
  · obtain ⟨r, i, h1, rfl⟩ := h; exact run_complex_mul w t a b c d r i h1
  · subst h; simp [binOp, Op.complexOp, Op.Complex.cmp, floatCmp_eql, asBool]
  · subst h; simp [binOp, Op.complexOp, Op.Complex.cmp, floatCmp_eql, asBool]
theorem pbin_sound {op : BinOp} {t : TypeId} {x y z : Value} (h : pbin op x y = some z) : (binOp op t x y).run P w = .ok z w := by
  cases x <;> cases y <;> first
    | exact pbin_int h
    | exact pbin_str h
    | (rename_i k a k' b; cases k <;> cases k' <;> first | exact pbin_float h | (simp [pbin] at h; done))
    | (rename_i k a b k' c d; cases k <;> cases k' <;> first | exact pbin_complex h | (simp [pbin] at h; done))
    | (simp [pbin] at h)
theorem eqGuard_run {op : BinOp} {t : TypeId} {x y : Operand} {u v : Value} (h : (match u with | .agg _ => false | .nilIface => false | _ => true) = true) : (eqGuard op t x y u v).run P w = .ok () w := by
  unfold eqGuard
  by_cases ho : (match op with | .eql | .neq => true | _ => false) = true
  · cases op <;> simp at ho <;> cases u <;> simp at h <;> cases v <;> rfl
  · cases op <;> simp at ho <;> rfl
theorem pbin_guard {op : BinOp} {t : TypeId} {x y : Operand} {u v z : Value} (h : pbin op u v = some z) : (eqGuard op t x y u v).run P w = .ok () w :=
  eqGuard_run (by cases u <;> simp [pbin] at h ⊢)
theorem pboolEq_sound {op : BinOp} {t : TypeId} {x y : Bool} {z : Value} (ht : P.underlying t = some .bool) (h : pboolEq op x y = some z) : (binOp op t (.bool x) (.bool y)).run P w = .ok z w := by
  cases op <;> simp [pboolEq] at h
  · subst h; exact run_eql_bool w t x y ht
  · subst h; exact run_neq_bool w t x y ht
theorem pun_sound {op : UnOp} {x z : Value} (h : pun op x = some z) : (Op.unary op x).run P w = .ok z w := by
  cases x <;> cases op <;> simp [pun] at h <;> (subst h; simp [Op.unary, Op.intArith, intBits_xor])
end
end Go.Lift
/- Reads and writes of the frame's blocks. -/
namespace Go.Lift
open Go Go.RowKit

theorem blkAt_some {L : List (Option Blk)} {k ver : Nat} {b : Blk} (h : blkAt L k ver = some b) : L[k]? = some (some b) ∧ b.ver = ver := by
  unfold blkAt at h
  split at h
  · rename_i b' hb
    split at h
    · rename_i hv
      cases h; exact ⟨hb, hv⟩
    · cases h
  · cases h

section
variable {P : Program} {fx : Fx} {cx : Cx} {σ : St} {a : Act} {w : World}

theorem Mem.atv (h : Mem P fx cx σ w) {k ver : Nat} {b : Blk} (hb : blkAt σ.L k ver = some b) : ∃ p, At cx σ k b p ∧ cx.pl k ver = some p ∧ BlkOk P cx w p b := by
  obtain ⟨h1, h2⟩ := blkAt_some hb
  obtain ⟨p, g1, g2⟩ := h.at h1
  exact ⟨p, g1, h2 ▸ g1.2, g2⟩

theorem PTr.nomap {p : Plc} {o : Nat} {y : Value} (h : PTr p o y) : (∀ g, p.v ≠ .map g) ∧ ∀ xs, p.v ≠ .tuple xs := by
  obtain ⟨g', d', h1, _⟩ := h
  refine ⟨fun g e => ?_, fun g e => ?_⟩ <;> rcases h1 with h1 | ⟨_, m, cap, h1⟩ <;> rw [h1] at e <;> cases e
theorem BlkOk.cells {p : Plc} {b : Blk} (h : BlkOk P cx w p b) (hm : (∀ g, p.v ≠ .map g) ∧ ∀ xs, p.v ≠ .tuple xs) (hne : b.cs ≠ []) : ∃ g d arr T, w.heap[g]? = some (.cells arr T (0, 0)) ∧ d + b.cs.length ≤ arr.size ∧
    (p.v = .pointer (some ⟨g, d, none⟩) ∨ d = 0 ∧ ∃ m cap, p.v = .slice (some ⟨g, 0, none⟩) m cap) ∧
    ∀ (i : Nat) (x : IV), b.cs[i]? = some x → ∃ y, arr[d + i]? = some y ∧ VX cx w x y ∧ y.oneCell' = true := by
  rcases h with ⟨_, h⟩ | ⟨_, _, h⟩ | ⟨_, _, _, h | h | h⟩
  rotate_left 2
  · obtain ⟨g, _, _, h1, _⟩ := h.ex
    exact absurd h1 (hm.1 _)
  · obtain ⟨g, cap, cur, h1, h2, h3, h4, h5, h7⟩ := h.ex
    refine ⟨g, 0, cur, b.t, h2, by omega, .inr ⟨rfl, _, _, h1⟩, fun i x hx => ?_⟩
    obtain ⟨y, g1, g2, a, rfl⟩ := h7 i x hx
    exact ⟨_, by rw [Nat.zero_add]; exact g1, g2, rfl⟩
  · obtain ⟨_, _, h1, _⟩ := h.ex
    exact absurd h1 (hm.2 _)
  · rcases h.v with ⟨_, _, hc⟩ | ⟨g, cap, cur, h1, h2, h3, h4, h5, h6, h7⟩
    · exact absurd hc hne
    · refine ⟨g, 0, cur, b.t, h2, ?_, .inr ⟨rfl, _, _, h1⟩, fun i x hx => ?_⟩
      · rw [h7, h5]; have := Nat.mul_le_mul_right p.sz h3; omega
      · obtain ⟨y, g1, g2, g3⟩ := h6.get i x hx
        refine ⟨y, ?_, TR.vx _ _ g2, g3⟩
        rw [List.getElem?_take] at g1
        split at g1
        · simpa using g1
        · cases g1
  · obtain ⟨g, d, arr, T, h1, h2, h3, h4⟩ := h.ex
    exact ⟨g, d, arr, T, h2, h3, .inl h1, h4⟩

theorem PTr.addr {p : Plc} {o g d : Nat} {y : Value} (h : PTr p o y) (hp : p.v = .pointer (some ⟨g, d, none⟩) ∨ d = 0 ∧ ∃ m cap, p.v = .slice (some ⟨g, 0, none⟩) m cap) : y = .pointer (some ⟨g, d + o, none⟩) := by
  obtain ⟨g', d', h1, rfl⟩ := h
  rcases hp with hp | ⟨rfl, m, cap, hp⟩ <;> rcases h1 with h1 | ⟨rfl, m', cap', h1⟩ <;> rw [hp] at h1 <;> simp_all

theorem run_loads (g o : Nat) (ys : List Value) (h : ∀ (i : Nat) (u : Value), ys[i]? = some u → w.cell? ⟨g, o + i, none⟩ = some u) : (loadCells ⟨g, o, none⟩ ys.length).run P w = .ok ys.toArray w :=
  run_loadCells_list w ⟨g, o, none⟩ ys fun j v hj => by rw [Addr.add_lit]; exact h j v hj

theorem read_cells {cs : List IV} {arr : Array Value} {d : Nat} {g : Nat} {T : TypeId} {fr : Nat × Nat} (hg : w.heap[g]? = some (.cells arr T fr))
    (hc : ∀ (i : Nat) (x : IV), cs[i]? = some x → ∃ y, arr[d + i]? = some y ∧ VX cx w x y ∧ y.oneCell' = true) (o n : Nat) (hl : o + n ≤ cs.length) :
    ∃ ys, (loadCells ⟨g, d + o, none⟩ n).run P w = .ok ys.toArray w ∧ VXl cx w ((cs.drop o).take n) ys ∧ ∀ z ∈ ys, z.oneCell' = true := by
  have hcell : ∀ j, w.cell? ⟨g, j, none⟩ = arr[j]? := fun j => cell_of_row w g j arr T fr hg
  have hx : ∀ i, i < n → ∃ x, cs[o + i]? = some x := fun i hi => ⟨_, List.getElem?_eq_getElem (by omega)⟩
  let ys := (List.range n).map fun i => arr.getD (d + (o + i)) undef
  have hys : ∀ i, i < n → ys[i]? = arr[d + (o + i)]? := fun i hi => by
    obtain ⟨x, hx⟩ := hx i hi
    obtain ⟨y, h1, _⟩ := hc _ _ hx
    simp [ys, hi, h1]
  have hlen : ys.length = n := by simp [ys]
  refine ⟨ys, ?_, ?_, ?_⟩
  · have := run_loads (P := P) (w := w) g (d + o) ys fun i u hu => by
      have hi : i < n := by rw [← hlen]; exact (List.getElem?_eq_some_iff.1 hu).1
      rw [hcell, Nat.add_assoc, ← hys i hi]; exact hu
    rwa [hlen] at this
  · refine VXl.of_get (by simp [hlen]; omega) fun i x y hx' hy => ?_
    have hi : i < n := by rw [← hlen]; exact (List.getElem?_eq_some_iff.1 hy).1
    rw [List.getElem?_take, if_pos hi, List.getElem?_drop] at hx'
    obtain ⟨y', h1, h2, _⟩ := hc _ _ hx'
    rw [hys i hi, h1] at hy
    cases hy; exact h2
  · intro z hz
    obtain ⟨i, hi, he⟩ := List.getElem_of_mem hz
    have hi' : i < n := by rw [← hlen]; exact hi
    obtain ⟨x, hx⟩ := hx i hi'
    obtain ⟨y', h1, _, h3⟩ := hc _ _ hx
    have := hys i hi'
    rw [List.getElem?_eq_getElem hi, he, h1] at this
    cases this; exact h3

theorem isAgg_run {t : TypeId} {i : TI} (h : TIok P t i) : (isAgg t).run P w = .ok i.isA w := by
  obtain ⟨d, h1, _, h3⟩ := h.desc
  unfold isAgg
  simp only [Sem.run_bind, run_underlying h1, Result.andThen_ok]
  rw [← h3]; cases d <;> rfl
theorem sizeOf_run {t : TypeId} {i : TI} (h : TIok P t i) : (sizeOf t).run P w = .ok i.size w := by
  obtain ⟨j, h1, h2, _⟩ := h.info
  simp [sizeOf, typeInfo, h1, h2]

theorem loadVar_run {t : TypeId} {i : TI} (hi : TIok P t i) {cs : List IV} {arr : Array Value} {d : Nat} {g : Nat} {T : TypeId} {fr : Nat × Nat} (hg : w.heap[g]? = some (.cells arr T fr))
    (hc : ∀ (i : Nat) (x : IV), cs[i]? = some x → ∃ y, arr[d + i]? = some y ∧ VX cx w x y ∧ y.oneCell' = true) (o : Nat) :
    (i.isA = true → o + i.size ≤ cs.length → ∃ y, (loadVar t ⟨g, d + o, none⟩).run P w = .ok y w ∧ VX cx w (.agg ((cs.drop o).take i.size)) y) ∧
    (i.isA = false → ∀ x, cs[o]? = some x → ∃ y, (loadVar t ⟨g, d + o, none⟩).run P w = .ok y w ∧ VX cx w x y ∧ y.oneCell' = true) := by
  refine ⟨fun hA hl => ?_, fun hA x hx => ?_⟩
  · obtain ⟨ys, h1, h2, h3⟩ := read_cells (P := P) (cx := cx) hg hc o i.size hl
    refine ⟨.agg ys.toArray, ?_, ?_⟩
    · simp [loadVar, isAgg_run hi, hA, sizeOf_run hi, h1]
    · unfold VX; exact ⟨ys.toArray, rfl, h2, h3⟩
  · obtain ⟨y, h1, h2, h3⟩ := hc o x hx
    refine ⟨y, ?_, h2, h3⟩
    have hcell : w.cell? ⟨g, d + o, none⟩ = some y := by rw [cell_of_row w g _ arr T fr hg]; exact h1
    simp [loadVar, isAgg_run hi, hA, hcell]
end

def loadIV (i : TI) (cs : List IV) (o : Nat) : Option IV :=
  if i.isA = true then if o + i.size ≤ cs.length then some (.agg ((cs.drop o).take i.size)) else none else cs[o]?

section
variable {P : Program} {fx : Fx} {cx : Cx} {σ : St} {a : Act} {w : World}
theorem loadIV_run {t : TypeId} {i : TI} (hi : TIok P t i) {cs : List IV} {arr : Array Value} {d : Nat} {g : Nat} {T : TypeId} {fr : Nat × Nat} (hg : w.heap[g]? = some (.cells arr T fr))
    (hc : ∀ (i : Nat) (x : IV), cs[i]? = some x → ∃ y, arr[d + i]? = some y ∧ VX cx w x y ∧ y.oneCell' = true) {o : Nat} {v : IV} (hv : loadIV i cs o = some v) :
    ∃ y, (loadVar t ⟨g, d + o, none⟩).run P w = .ok y w ∧ VX cx w v y := by
  have := loadVar_run (P := P) (cx := cx) hi hg hc o
  unfold loadIV at hv
  split at hv
  · rename_i hA
    split at hv
    · cases hv; exact this.1 hA ‹_›
    · cases hv
  · rename_i hA
    obtain ⟨y, h1, h2, _⟩ := this.2 (by simpa using hA) v hv
    exact ⟨y, h1, h2⟩

theorem load_sound (hs : Sim P fx cx σ a w) {t : TypeId} {i : TI} (hi : TIok P t i) {k ver o : Nat} {b : Blk} (hb : blkAt σ.L k ver = some b) {y : Value} (hy : VX cx w (.ptr k ver o) y) {v : IV} (hv : loadIV i b.cs o = some v) (hz : 0 < i.size) :
    ∃ u, (Instr.loadAt t y).run P w = .ok u w ∧ VX cx w v u := by
  obtain ⟨p, h1, h2, h3⟩ := hs.m.atv hb
  have hne : b.cs ≠ [] := by
    intro e
    simp [loadIV, e] at hv
    omega
  unfold VX at hy
  obtain ⟨p', q1, q2⟩ := hy
  rw [h2] at q1; cases q1
  obtain ⟨g, d, arr, T, g1, g2, g3, g4⟩ := h3.cells q2.nomap hne
  have := q2.addr g3
  subst this
  obtain ⟨u, r1, r2⟩ := loadIV_run hi g1 g4 hv
  exact ⟨u, by simp [Instr.loadAt, Instr.sureAddr, r1], r2⟩
theorem load_ro_sound {t : TypeId} {i : TI} (hi : TIok P t i) {cs : List IV} {o : Nat} {y : Value} (hy : VX cx w (.rp cs o) y) {v : IV} (hv : loadIV i cs o = some v) (hz : 0 < i.size) :
    ∃ u, (Instr.loadAt t y).run P w = .ok u w ∧ VX cx w v u := by
  unfold VX at hy
  obtain ⟨b, d, rfl, hy⟩ := hy
  have hne : cs ≠ [] := by
    intro e
    simp [loadIV, e] at hv
    omega
  obtain ⟨hb, hm⟩ := hy.resolve_left hne
  obtain ⟨x, hx⟩ : ∃ x, cs[0]? = some x := by cases cs with | nil => exact absurd rfl hne | cons x xs => exact ⟨x, rfl⟩
  obtain ⟨u0, hu0, _⟩ := hm.get 0 x hx
  obtain ⟨arr, T, fr, hg⟩ : ∃ arr T fr, w.heap[b]? = some (.cells arr T fr) := by
    unfold World.cell? at hu0
    split at hu0
    · rename_i c T fr hc; exact ⟨c, T, fr, hc⟩
    · cases hu0
  obtain ⟨u, r1, r2⟩ := loadIV_run (cx := cx) hi hg (cs := cs) (d := d) (fun i x hx => by
    obtain ⟨y, h1, h2, h3⟩ := hm.get i x hx
    rw [cell_of_row w b _ arr T fr hg] at h1
    exact ⟨y, h1, TR.vx _ _ h2, h3⟩) hv
  exact ⟨u, by simp [Instr.loadAt, Instr.sureAddr, r1], r2⟩
end
end Go.Lift
/- Stores. -/
namespace Go.Lift
open Go Go.RowKit

theorem Cx.add_same {cx : Cx} {k ver : Nat} {p : Plc} (h : cx.pl k ver = some p) : cx.add k ver p = cx := by
  cases cx with
  | mk pl R =>
    simp only [Cx.add, Cx.mk.injEq, and_true]
    funext k' ver'
    split
    · rename_i e; obtain ⟨rfl, rfl⟩ := e; exact h.symm
    · rfl

theorem Fr.setRow {w : World} {g : Nat} {arr arr' : Array Value} {T : TypeId} (hg : w.heap[g]? = some (.cells arr T (0, 0))) (hsz : arr'.size = arr.size) (os : List OwnR)
    (hsame : ∀ j, ¬ Owns os g j → arr'[j]? = arr[j]?) : Fr w (w.setRow g arr') os := by
  have ho : ∀ b, b ≠ g → (w.setRow g arr').heap[b]? = w.heap[b]? := fun b hb => setRow_other w g b arr' hb
  refine ⟨rfl, rfl, rfl, by simp [World.setRow], ?_, ?_⟩
  · intro b hb hn
    by_cases e : b = g
    · subst e
      have : arr' = arr := by
        apply Array.ext_getElem?
        intro j
        exact hsame j (hn j)
      rw [this, setRow_heap w b arr arr T (0, 0) hg, hg]
    · exact ho b e
  · intro b arr0 T0 fr hb
    by_cases e : b = g
    · subst e
      rw [hg] at hb
      cases hb
      exact ⟨arr', setRow_heap w b arr arr' T (0, 0) hg, hsz, hsame⟩
    · exact ⟨arr0, by rw [ho b e]; exact hb, rfl, fun _ _ => rfl⟩

theorem putAt_length (cs : List IV) (o : Nat) (xs : List IV) : (putAt cs o xs).length = cs.length := by
  induction xs generalizing cs o with
  | nil => rfl
  | cons x xs ih => simp [putAt, ih]
theorem putAt_get (cs : List IV) (o : Nat) (xs : List IV) (hl : o + xs.length ≤ cs.length) (i : Nat) : (putAt cs o xs)[i]? = if o ≤ i ∧ i < o + xs.length then xs[i - o]? else cs[i]? := by
  induction xs generalizing cs o with
  | nil => simp [putAt]; intro h1 h2; omega
  | cons x xs ih =>
    simp only [putAt]
    rw [ih (cs.set o x) (o + 1) (by simp at hl ⊢; omega)]
    simp only [List.length_cons, List.getElem?_set] at hl ⊢
    by_cases h1 : i = o
    · subst h1
      rw [if_neg (by omega), if_pos rfl, if_pos (by omega), if_pos (by omega)]
      simp
    · by_cases h2 : o + 1 ≤ i ∧ i < o + 1 + xs.length
      · rw [if_pos h2, if_pos (by omega)]
        have : i - o = (i - (o + 1)) + 1 := by omega
        rw [this]; rfl
      · rw [if_neg h2, if_neg (fun e => h1 e.symm), if_neg (by omega)]

section
variable {P : Program} {fx : Fx} {cx : Cx} {σ : St} {a : Act} {w : World}

theorem rng_has {p : Plc} {b : Blk} {g d j : Nat} (hp : p.v = .pointer (some ⟨g, d, none⟩) ∨ d = 0 ∧ ∃ m cap, p.v = .slice (some ⟨g, 0, none⟩) m cap) (hj : d ≤ j ∧ j < d + b.cs.length) : Owns (b.rng p) g j := by
  rcases hp with hp | ⟨rfl, m, cap, hp⟩
  · exact ⟨.rng g d b.cs.length, by simp [Blk.rng, hp], rfl, hj.1, hj.2⟩
  · exact ⟨.blk g, by simp [Blk.rng, hp], rfl⟩

theorem storeVar_run {t : TypeId} {i : TI} (hi : TIok P t i) {g o : Nat} {T : TypeId} {arr : Array Value} (hg : w.heap[g]? = some (.cells arr T (0, 0))) {u : Value} (hu : ∀ z ∈ u.cells.toList, z.oneCell' = true)
    (hn : u.cells.size = i.size) (hl : o + i.size ≤ arr.size) :
    (storeVar t ⟨g, o, none⟩ u).run P w = .ok () (w.setRow g (arr.toList.take o ++ u.cells.toList ++ arr.toList.drop (o + u.cells.toList.length)).toArray) := by
  unfold storeVar
  have := run_storeCells_at P g o T u.cells.toList 0 arr w hg (by simp; omega) hu
  simp only [Nat.add_zero] at this
  simp only [Sem.run_bind, sizeOf_run hi, Result.andThen_ok, hn, ne_eq, not_true_eq_false, if_false, this]

theorem store_sound (hs : Sim P fx cx σ a w) {t : TypeId} {i : TI} (hi : TIok P t i) {k ver o : Nat} {b : Blk} (hb : blkAt σ.L k ver = some b) (hz : b.frz = false) {y u : Value} (hy : VX cx w (.ptr k ver o) y)
    {xs : List IV} (hxs : VXl cx w xs u.cells.toList) (h1 : ∀ z ∈ u.cells.toList, z.oneCell' = true) (hn : xs.length = i.size) (hl : o + i.size ≤ b.cs.length) (hp : 0 < i.size)
    (hsp : (b.row || !b.fl) = true) (hrow : b.row = true → TRl cx.R w xs u.cells.toList ∧ (b.fl = true → ∀ x ∈ xs, ∃ z, x = .v z)) :
    ∃ w', (Instr.storeAt t y u).run P w = .ok () w' ∧ Mem P fx cx { σ with L := σ.L.set k (some { b with cs := putAt b.cs o xs }) } w' ∧ HeapEq cx.R w w' := by
  obtain ⟨p, q1, q2, q3⟩ := hs.m.atv hb
  have hne : b.cs ≠ [] := by intro e; simp [e] at hl; omega
  unfold VX at hy
  obtain ⟨p', e1, e2⟩ := hy
  rw [q2] at e1; cases e1
  obtain ⟨g, d, arr, T, g1, g2, g3, g4⟩ := q3.cells e2.nomap hne
  have := e2.addr g3
  subst this
  have hul : u.cells.toList.length = i.size := by rw [hxs.length, hn]
  have hus : u.cells.size = i.size := by rw [← hul]; simp
  have hrun := storeVar_run (P := P) hi g1 h1 hus (o := d + o) (by omega)
  let arr' := (arr.toList.take (d + o) ++ u.cells.toList ++ arr.toList.drop (d + o + u.cells.toList.length)).toArray
  have hsz : arr'.size = arr.size := by simp [arr']; omega
  have hget : ∀ j, arr'[j]? = if d + o ≤ j ∧ j < d + o + i.size then u.cells.toList[j - (d + o)]? else arr[j]? := fun j => by
    simp only [arr', List.getElem?_toArray]
    rw [List.getElem?_append, List.getElem?_append]
    simp only [List.length_append, List.length_take, Array.length_toList, hul]
    have hmin : min (d + o) arr.size = d + o := by omega
    rw [hmin]
    by_cases c1 : j < d + o
    · rw [if_pos (by omega), if_pos c1, if_neg (by omega), List.getElem?_take, if_pos c1]; simp
    · by_cases c2 : j < d + o + i.size
      · rw [if_pos c2, if_neg c1, if_pos ⟨by omega, c2⟩]
      · rw [if_neg c2, if_neg (by omega), List.getElem?_drop]
        rw [show d + o + i.size + (j - (d + o + i.size)) = j by omega]; simp
  have hfr : Fr w (w.setRow g arr') (b.rng p) := Fr.setRow g1 hsz _ fun j hj => by
    rw [hget j, if_neg]
    rintro ⟨c1, c2⟩
    exact hj (rng_has g3 ⟨by omega, by omega⟩)
  have hR : HeapEq cx.R w (w.setRow g arr') := fun bb hbb => hfr.hblk bb (hs.m.rlt bb hbb) fun oo ⟨x, hx, hh⟩ => (hs.m.nor k b p q1 x hx bb oo hh).1 hz hbb
  have hheap : (w.setRow g arr').heap[g]? = some (.cells arr' T (0, 0)) := setRow_heap w g arr arr' T (0, 0) g1
  have hcells : ∀ (j : Nat) (x : IV), (putAt b.cs o xs)[j]? = some x → ∃ y, arr'[d + j]? = some y ∧ VX cx (w.setRow g arr') x y ∧ y.oneCell' = true := fun j x hx => by
    rw [putAt_get _ _ _ (by omega)] at hx
    rw [hget]
    by_cases c : o ≤ j ∧ j < o + xs.length
    · rw [if_pos c] at hx
      rw [if_pos (by omega), show d + j - (d + o) = j - o by omega]
      obtain ⟨y, y1, y2⟩ := hxs.get _ _ hx
      exact ⟨y, y1, VX.mono (Cx.le_refl _) hR _ _ y2, h1 y (List.mem_of_getElem? y1)⟩
    · rw [if_neg c] at hx
      rw [if_neg (by omega)]
      obtain ⟨y, y1, y2, y3⟩ := g4 j x hx
      exact ⟨y, y1, VX.mono (Cx.le_refl _) hR _ _ y2, y3⟩
  have hok : BlkOk P cx (w.setRow g arr') p { b with cs := putAt b.cs o xs } := by
    rcases q3 with ⟨hr, q3⟩ | ⟨hr, hf, q3⟩ | ⟨hr, hf, hfl, q3⟩
    rotate_left 2
    · rw [hr, hfl] at hsp; simp at hsp
    · refine .inl ⟨hr, ?_, q3.info, ?_⟩
      · obtain ⟨t1, t2⟩ := hrow hr
        rcases q3.v with ⟨_, _, hc⟩ | ⟨g', cap, cur, v1, v2, v3, v4, v5, v6, v7⟩
        · exact absurd hc hne
        · have hg' : g' = g ∧ d = 0 := by
            rcases g3 with g3 | ⟨rfl, m, cap', g3⟩ <;> rw [v1] at g3 <;> simp_all
          obtain ⟨rfl, rfl⟩ := hg'
          rw [g1] at v2; cases v2
          refine ⟨arr'.toList.take (b.n * p.sz), ⟨?_, .inr ⟨g', cap, arr', v1, Nat.zero_le _, hheap, v3, v4, by rw [hsz]; exact v5, rfl⟩⟩, ?_⟩
          · simp; rw [hsz, v5]; have := Nat.mul_le_mul_right p.sz v3; omega
          · refine TRl.of_get ?_ fun j x y hx hy => ?_
            · simp [putAt_length]; rw [hsz, v5, v7]; have := Nat.mul_le_mul_right p.sz v3; omega
            · have hj : j < b.cs.length := by rw [← putAt_length b.cs o xs]; exact (List.getElem?_eq_some_iff.1 hx).1
              rw [List.getElem?_take, if_pos (by omega)] at hy
              rw [putAt_get _ _ _ (by omega)] at hx
              have hy' : arr'[j]? = some y := by simpa using hy
              rw [hget j] at hy'
              by_cases c : o ≤ j ∧ j < o + xs.length
              · rw [if_pos c] at hx
                rw [if_pos (by omega)] at hy'
                obtain ⟨y', z1, z2, z3⟩ := t1.get _ _ hx
                rw [show j - (0 + o) = j - o by omega, z1] at hy'
                cases hy'
                exact ⟨TR.mono (fun _ h => h) hR _ _ z2, z3⟩
              · rw [if_neg c] at hx
                rw [if_neg (by omega)] at hy'
                obtain ⟨y', z1, z2, z3⟩ := v6.get _ _ hx
                rw [List.getElem?_take, if_pos (by omega)] at z1
                have z1' : arr[j]? = some y' := by simpa using z1
                rw [z1'] at hy'; cases hy'
                exact ⟨TR.mono (fun _ h => h) hR _ _ z2, z3⟩
      · intro hfl x hx
        obtain ⟨j, hj, he⟩ := List.getElem_of_mem hx
        have hx' : (putAt b.cs o xs)[j]? = some x := by rw [List.getElem?_eq_getElem hj, he]
        rw [putAt_get _ _ _ (by omega)] at hx'
        split at hx'
        · exact (hrow hr).2 hfl x (List.mem_of_getElem? hx')
        · exact q3.flat hfl x (List.mem_of_getElem? hx')
    · refine .inr (.inl ⟨hr, hf, ?_⟩)
      rcases g3 with g3 | ⟨rfl, m, cap', g3⟩
      · exact ⟨q3.fl, g, d, arr', T, g3, hheap, by simp [putAt_length]; omega, hcells⟩
      · obtain ⟨g', d', arr0, T0, k1, _⟩ := q3.ex
        rw [g3] at k1; cases k1
  refine ⟨w.setRow g arr', by simp only [Instr.storeAt, Instr.sureAddr, Sem.run_bind, Sem.run_pure, Result.andThen_ok, hrun, arr'], ?_, hR⟩
  have hrng : ({ b with cs := putAt b.cs o xs } : Blk).rng p = b.rng p := by simp [Blk.rng, putAt_length]
  have := hs.m.turn q1 hz hfr { b with cs := putAt b.cs o xs } p (.inl ⟨rfl, rfl⟩) cx.R (fun _ h => h) (fun bb h => .inl h) (by rw [Cx.add_same q1.2]; exact hok) (by
    rw [hrng]
    intro x hx bb oo hh
    exact ⟨.inl ⟨x, hx, hh⟩, fun _ => (hs.m.nor k b p q1 x hx bb oo hh).1 hz, fun h => by rw [show ({ b with cs := putAt b.cs o xs } : Blk).frz = b.frz from rfl, hz] at h; cases h⟩)
  rw [show ({ cx.add k ({ b with cs := putAt b.cs o xs } : Blk).ver p with R := cx.R } : Cx) = cx from Cx.add_same q1.2] at this
  exact this
end
end Go.Lift
/- New blocks. -/
namespace Go.Lift
open Go Go.RowKit

def nilRow (e : TypeId) (fl : Bool) : Blk := ⟨true, e, 0, fl, [], 0, false⟩
def objBlk (t : TypeId) (cs : List IV) : Blk := ⟨false, t, 1, false, cs, 0, false⟩

theorem Fr.alloc_nil (w : World) (o : Obj) : Fr w (w.alloc o) [] := Fr.alloc w o []

section
variable {P : Program} {TT : TTab} {fx : Fx} {cx : Cx} {σ : St} {a : Act} {w : World}

theorem TIok.row_info {e : TypeId} {i : TI} (h : TIok P e i) (hz : 0 < i.size) : ∃ j, P.info? e = some j ∧ j.size = i.size ∧ 0 < i.size := by
  obtain ⟨j, h1, h2, _⟩ := h.info
  exact ⟨j, h1, h2, hz⟩

theorem push_nil (hm : Mem P fx cx σ w) {e : TypeId} {i : TI} (hi : TIok P e i) (hz : 0 < i.size) :
    ∃ cx', cx.le cx' ∧ cx'.R = cx.R ∧ Mem P fx cx' { σ with L := σ.L ++ [some (nilRow e i.flat)] } w ∧ VX cx' w (.sl σ.L.length 0 0 0) (.slice none 0 0) := by
  refine ⟨cx.add σ.L.length 0 ⟨.slice none 0 0, i.size⟩, Cx.add_le (.inl (hm.none_at 0)), rfl, ?_, ?_⟩
  · refine hm.push (Fr.refl w []) (nilRow e i.flat) ⟨.slice none 0 0, i.size⟩ (.inl ⟨rfl, ⟨[], ?_, ?_⟩, ?_, ?_⟩) rfl ?_
    · exact World.ownsRow_nil w 0 e i.size
    · simp [nilRow, TRl]
    · exact hi.row_info hz
    · simp [nilRow]
    · simp [Blk.rng]
  · unfold VX
    exact ⟨_, Cx.add_get _ _ _ _, .inl ⟨rfl, ⟨none, rfl⟩, rfl, rfl⟩⟩

theorem push_obj (hm : Mem P fx cx σ w) (t : TypeId) {xs : List IV} {ys : List Value} (hx : VXl cx w xs ys) (h1 : ∀ z ∈ ys, z.oneCell' = true) :
    ∃ cx', cx.le cx' ∧ cx'.R = cx.R ∧ Mem P fx cx' { σ with L := σ.L ++ [some (objBlk t xs)] } (w.alloc (.cells ys.toArray t)) ∧ HeapEq cx.R w (w.alloc (.cells ys.toArray t)) ∧
      VX cx' (w.alloc (.cells ys.toArray t)) (.ptr σ.L.length 0 0) (.pointer (some ⟨w.heap.size, 0, none⟩)) := by
  have hf := Fr.alloc_nil w (.cells ys.toArray t)
  have hR := hm.heapEq hf
  refine ⟨cx.add σ.L.length 0 ⟨.pointer (some ⟨w.heap.size, 0, none⟩), 0⟩, Cx.add_le (.inl (hm.none_at 0)), rfl, ?_, hR, ?_⟩
  · refine hm.push hf (objBlk t xs) ⟨.pointer (some ⟨w.heap.size, 0, none⟩), 0⟩ (.inr (.inl ⟨rfl, rfl, ⟨rfl, _, 0, ys.toArray, t, rfl, heap_alloc_at _ _, ?_, fun i x hi => ?_⟩⟩)) rfl ?_
    · simp [objBlk, hx.length]
    · obtain ⟨y, g1, g2⟩ := hx.get i x hi
      exact ⟨y, by simpa using g1, VX.mono (Cx.le_refl _) hR _ _ g2, h1 y (List.mem_of_getElem? g1)⟩
    · intro x hx bb o hh
      simp [Blk.rng] at hx
      subst hx
      rw [hh.1]
      exact Nat.le_refl _
  · unfold VX
    exact ⟨_, Cx.add_get _ _ _ _, _, 0, .inl rfl, rfl⟩

theorem push_row (hm : Mem P fx cx σ w) {w' : World} (hf : Fr w w' []) {e : TypeId} {i : TI} (hi : TIok P e i) (hz : 0 < i.size) {n : Nat} {cur : Array Value} {cap : Nat} (hg : w'.heap[w.heap.size]? = some (.cells cur e (0, 0)))
    (hn : n ≤ cap) (hcap : cap ≤ maxLen) (hcur : cur.size = cap * i.size) {fl : Bool} {xs : List IV} (hx : TRl cx.R w xs (cur.toList.take (n * i.size))) (hfl : fl = true → ∀ x ∈ xs, ∃ z, x = .v z) :
    ∃ cx', cx.le cx' ∧ cx'.R = cx.R ∧ Mem P fx cx' { σ with L := σ.L ++ [some ⟨true, e, n, fl, xs, 0, false⟩] } w' ∧ HeapEq cx.R w w' ∧
      VX cx' w' (.sl σ.L.length 0 0 n) (.slice (some ⟨w.heap.size, 0, none⟩) n cap) := by
  have hR := hm.heapEq hf
  refine ⟨cx.add σ.L.length 0 ⟨.slice (some ⟨w.heap.size, 0, none⟩) n cap, i.size⟩, Cx.add_le (.inl (hm.none_at 0)), rfl, ?_, hR, ?_⟩
  · refine hm.push hf ⟨true, e, n, fl, xs, 0, false⟩ ⟨.slice (some ⟨w.heap.size, 0, none⟩) n cap, i.size⟩ (.inl ⟨rfl, ⟨_, ⟨?_, .inr ⟨_, cap, cur, rfl, Nat.zero_le _, hg, hn, hcap, hcur, rfl⟩⟩, ?_⟩, hi.row_info hz, hfl⟩) rfl ?_
    · simp only [List.length_take, Array.length_toList, hcur]; have := Nat.mul_le_mul_right i.size hn; omega
    · exact TRl.mono (fun _ h => h) hR _ _ hx
    · intro x hx bb o hh
      simp [Blk.rng] at hx
      subst hx
      exact Nat.le_of_eq hh.symm
  · unfold VX
    exact ⟨_, Cx.add_get _ _ _ _, .inr ⟨w.heap.size, n, cap, ⟨w.heap.size, 0, none⟩, rfl, rfl, by omega, fun _ => by simp⟩⟩

theorem VXl.append {xs xs' : List IV} {ys ys' : List Value} (h : VXl cx w xs ys) (h' : VXl cx w xs' ys') : VXl cx w (xs ++ xs') (ys ++ ys') := by
  refine VXl.of_get (by simp [h.length, h'.length]) fun i x y hx hy => ?_
  rw [List.getElem?_append] at hx hy
  rw [h.length] at hy
  split at hx <;> rename_i hi
  · rw [if_pos hi] at hy
    obtain ⟨y', h1, h2⟩ := h.get i x hx
    rw [hy] at h1; cases h1; exact h2
  · rw [if_neg hi] at hy
    obtain ⟨y', h1, h2⟩ := h'.get _ x hx
    rw [hy] at h1; cases h1; exact h2

theorem zeroObj_sound (htt : TTok P TT) (hm : Mem P fx cx σ w) : ∀ {zs : List ZC} {cs : List IV} {rs : List (Option Blk)} {ys : List Value}, zeroObj σ.L TT zs = some (cs, rs) → zOk zs ys → (∀ z ∈ zs, ∀ e i, z = .row e → TT e = some i → 0 < i.size) →
    ∃ cx', cx.le cx' ∧ cx'.R = cx.R ∧ Mem P fx cx' { σ with L := σ.L ++ rs } w ∧ VXl cx' w cs ys ∧ ∀ z ∈ ys, z.oneCell' = true
  | [], cs, rs, ys, h, hz, _ => by
    simp [zeroObj] at h
    obtain ⟨rfl, rfl⟩ := h
    simp [zOk] at hz
    subst hz
    exact ⟨cx, Cx.le_refl _, rfl, by simpa using hm, VXl.nil, by simp⟩
  | .v x :: zs, cs, rs, ys, h, hz, hp => by
    simp only [zeroObj, Option.map_eq_some_iff] at h
    obtain ⟨⟨cs', rs'⟩, h1, h2⟩ := h
    cases h2
    unfold zOk at hz
    obtain ⟨y, ys', rfl, ⟨rfl, hy⟩, hz'⟩ := hz
    obtain ⟨cx', g1, g0, g2, g3, g4⟩ := zeroObj_sound htt hm h1 hz' fun z hz => hp z (by simp [hz])
    exact ⟨cx', g1, g0, g2, VXl.cons (by simp [VX]) g3, by simp; exact ⟨hy, g4⟩⟩
  | .row e :: zs, cs, rs, ys, h, hz, hp => by
    unfold zeroObj at h
    split at h
    · rename_i i cs' rs' h1 h2
      cases h
      unfold zOk at hz
      obtain ⟨y, ys', rfl, rfl, hz'⟩ := hz
      obtain ⟨cx', g1, g0, g2, g3, g4⟩ := zeroObj_sound htt hm h2 hz' fun z hz => hp z (by simp [hz])
      obtain ⟨cx2, k1, k0, k2, k3⟩ := push_nil g2 (htt _ _ h1) (hp (.row e) (by simp) e i rfl h1)
      refine ⟨cx2, Cx.le_trans g1 k1, k0.trans g0, ?_, VXl.cons ?_ (VXl.mono k1 (HeapEq.refl _ _) _ _ g3), by simp; exact ⟨rfl, g4⟩⟩
      · simpa [nilRow, List.append_assoc] using k2
      · simpa using k3
    · cases h
theorem rowObj_sound (htt : TTok P TT) (hm : Mem P fx cx σ w) : ∀ {zs : List ZC} {xs cs : List IV} {rs : List (Option Blk)} {ys : List Value}, rowObj σ.L TT zs xs = some (cs, rs) → VXl cx w xs ys → (∀ z ∈ ys, z.oneCell' = true) →
    (∀ z ∈ zs, ∀ e i, z = .row e → TT e = some i → 0 < i.size) →
    ∃ cx', cx.le cx' ∧ cx'.R = cx.R ∧ Mem P fx cx' { σ with L := σ.L ++ rs } w ∧ VXl cx' w cs ys
  | [], [], cs, rs, ys, h, hx, _, _ => by
    simp [rowObj] at h
    obtain ⟨rfl, rfl⟩ := h
    exact ⟨cx, Cx.le_refl _, rfl, by simpa using hm, hx⟩
  | [], _ :: _, cs, rs, ys, h, hx, _, _ => by simp [rowObj] at h
  | .v _ :: zs, [], cs, rs, ys, h, hx, _, _ => by simp [rowObj] at h
  | .row _ :: zs, [], cs, rs, ys, h, hx, _, _ => by simp [rowObj] at h
  | .v z :: zs, x :: xs, cs, rs, ys, h, hx, h1, hp => by
    simp only [rowObj, Option.map_eq_some_iff] at h
    obtain ⟨⟨cs', rs'⟩, h2, h3⟩ := h
    cases h3
    unfold VXl at hx
    obtain ⟨y, ys', rfl, hy, hx'⟩ := hx
    obtain ⟨cx', g1, g0, g2, g3⟩ := rowObj_sound htt hm h2 hx' (fun z hz => h1 z (by simp [hz])) (fun z hz => hp z (by simp [hz]))
    exact ⟨cx', g1, g0, g2, VXl.cons (VX.mono g1 (HeapEq.refl _ _) _ _ hy) g3⟩
  | .row e :: zs, x :: xs, cs, rs, ys, h, hx, h1, hp => by
    unfold VXl at hx
    obtain ⟨y, ys', rfl, hy, hx'⟩ := hx
    have rec' : ∀ {cs' rs'}, rowObj σ.L TT zs xs = some (cs', rs') → ∃ cx', cx.le cx' ∧ cx'.R = cx.R ∧ Mem P fx cx' { σ with L := σ.L ++ rs' } w ∧ VXl cx' w cs' ys' := fun h2 =>
      rowObj_sound htt hm h2 hx' (fun z hz => h1 z (by simp [hz])) (fun z hz => hp z (by simp [hz]))
    by_cases hemp : x = .emp
    · subst hemp
      unfold rowObj at h
      split at h
      · rename_i i cs' rs' e1 e2
        cases h
        obtain ⟨cx', g1, g0, g2, g3⟩ := rec' e2
        obtain ⟨cx2, k1, k0, k2, k3⟩ := push_nil g2 (htt _ _ e1) (hp (.row e) (by simp) e i rfl e1)
        refine ⟨cx2, Cx.le_trans g1 k1, k0.trans g0, ?_, VXl.cons ?_ (VXl.mono k1 (HeapEq.refl _ _) _ _ g3)⟩
        · simpa [nilRow, List.append_assoc] using k2
        · unfold VX at hy
          obtain ⟨a, rfl⟩ := hy
          unfold VX at k3 ⊢
          obtain ⟨p, p1, p2⟩ := k3
          refine ⟨p, by simpa using p1, ?_⟩
          rcases p2 with ⟨q1, _, q2⟩ | ⟨g', m, cap, ad, _, q2, _⟩
          · exact .inl ⟨q1, ⟨a, rfl⟩, q2⟩
          · cases q2
      · cases h
    · have : rowObj σ.L TT (.row e :: zs) (x :: xs) = (rowObj σ.L TT zs xs).map fun (cs, rs) => (x :: cs, rs) := by
        cases x <;> first | exact absurd rfl hemp | rfl
      rw [this, Option.map_eq_some_iff] at h
      obtain ⟨⟨cs', rs'⟩, h2, h3⟩ := h
      cases h3
      obtain ⟨cx', g1, g0, g2, g3⟩ := rec' h2
      exact ⟨cx', g1, g0, g2, VXl.cons (VX.mono g1 (HeapEq.refl _ _) _ _ hy) g3⟩
end
end Go.Lift
/- append -/
namespace Go.Lift
open Go Go.RowKit

structure Src (P : Program) (w : World) (u : TypeId) (x : Value) (m size : Nat) (news : List Value) : Prop where
  ty : (∃ e, P.underlying u = some (.slice e)) ∨ P.underlying u = some .string
  len : ∀ w1, (Builtin.lenOf x).run P w1 = .ok m w1
  cells : ∀ w1 : World, w1.heap = w.heap → (Builtin.firstCells size m x).run P w1 = .ok news.toArray w1
  num : news.length = m * size
  one : ∀ z ∈ news, z.oneCell' = true

section
variable {P : Program} {TT : TTab} {fx : Fx} {cx : Cx} {σ : St} {a : Act} {w : World}

theorem run_append_in {t u ty e : TypeId} {i : TypeInfo} (ht : P.underlying t = some (.slice e)) (hi : P.info? e = some i) {base : Option Addr} {n c m : Nat} {x : Value} {news : List Value}
    (hs : Src P w u x m i.size news) (hr : n + m ≤ c) :
    (Builtin.append_ #[t, u] ty #[.slice base n c, x]).run P w = (((match base with | some a => storeCells (a.add (n * i.size)) news | none => pure ()) : Sem Unit).run P w).andThen fun _ w' => .ok (.slice base (n + m) c) w' := by
  have hl := hs.len w
  have hc := hs.cells w rfl
  rcases hs.ty with ⟨e', hd⟩ | hd <;> cases base <;> simp [Builtin.append_, run_underlying ht, run_underlying hd, sizeOf, typeInfo, hi, hl, hr, hc]

theorem run_append_new {t u ty e : TypeId} {i : TypeInfo} {z : Value} (ht : P.underlying t = some (.slice e)) (hi : P.info? e = some i) (hz : i.zero = some z) {base : Option Addr} {n c m : Nat} {x : Value} {olds news : List Value}
    (hs : Src P w u x m i.size news) (ho : ∀ w1 : World, w1.heap = w.heap → (Builtin.firstCells i.size n (.slice base n c)).run P w1 = .ok olds.toArray w1)
    (hr : c < n + m) (h63 : n + m ≤ 9223372036854775807) (hfit : (n + m) * i.bytes ≤ 140737488355328) :
    (Builtin.append_ #[t, u] ty #[.slice base n c, x]).run P w = .ok (.slice (some ⟨w.heap.size, 0, none⟩) (n + m) (grownCap w (n + m) c e))
      (w.drew.alloc (.cells (olds.toArray ++ news.toArray ++ Builtin.zeroCells z.cells (grownCap w (n + m) c e - (n + m))) e)) := by
  have hl := hs.len w
  have hc := hs.cells w.drew rfl
  have ho' := ho w.drew rfl
  have hn' : ¬ (n + m ≤ c) := by omega
  have h63' : ¬ (9223372036854775807 < ((n : Int) + (m : Int))) := by omega
  have h48' : ¬ (281474976710656 < Builtin.nextslicecap (n + m) c * i.bytes) := by have := growslice_fits hr hfit; omega
  rcases hs.ty with ⟨e', hd⟩ | hd <;> simp [Builtin.append_, run_underlying ht, run_underlying hd, sizeOf, typeInfo, zeroValue, hi, hz, hl, hn', h63', h48', Question.forced, hc, ho', newRow, grownCap] <;>
    (congr 2; apply Array.ext'; simp [List.append_assoc])

theorem src_slice {u e : TypeId} (ht : P.underlying u = some (.slice e)) {size m c : Nat} {ad : Option Addr} {news : List Value} (hn : news.length = m * size) (h1 : ∀ z ∈ news, z.oneCell' = true)
    (hc : news = [] ∨ ∃ b o, ad = some ⟨b, o, none⟩ ∧ ∀ (j : Nat) (v : Value), news[j]? = some v → w.cell? ⟨b, o + j, none⟩ = some v) : Src P w u (.slice ad m c) m size news := by
  refine ⟨.inl ⟨_, ht⟩, fun w1 => by simp [Builtin.lenOf], fun w1 hw => ?_, hn, h1⟩
  rcases hc with rfl | ⟨b, o, rfl, hc⟩
  · have h0 : m * size = 0 := by simpa using hn.symm
    cases ad with
    | none => simp [Builtin.firstCells]
    | some ad => simp [Builtin.firstCells, h0, loadCells, loadCellsFrom]
  · exact run_firstCells_some w1 size m ⟨b, o, none⟩ m c news hn fun j v hj => by
      rw [Addr.add_lit]
      have := hc j v hj
      simpa [World.cell?, hw] using this

def strCells (s : ByteArray) : List IV := s.data.toList.map fun b => .v (.int .u8 b.toNat)
theorem src_string {u : TypeId} (ht : P.underlying u = some .string) (s : ByteArray) : Src P w u (.string s) s.size 1 (s.data.toList.map fun b => .int .u8 b.toNat) := by
  refine ⟨.inr ht, fun w1 => by simp [Builtin.lenOf], fun w1 _ => ?_, by simp, fun z hz => ?_⟩
  · simp only [Builtin.firstCells, Sem.run_pure]
    congr 1
    have hx : s.extract 0 s.size = s := ByteArray.extract_zero_size
    rw [hx]
    apply Array.ext'
    simp
  · simp at hz; obtain ⟨b, _, rfl⟩ := hz; rfl
theorem TRl_str (R : Nat → Prop) (s : ByteArray) : TRl R w (strCells s) (s.data.toList.map fun b => .int .u8 b.toNat) := by
  refine TRl.of_get (by simp [strCells]) fun i x y hx hy => ?_
  simp only [strCells, List.getElem?_map, Option.map_eq_some_iff] at hx hy
  obtain ⟨b, h1, rfl⟩ := hx
  obtain ⟨b', h2, rfl⟩ := hy
  rw [h1] at h2; cases h2
  exact ⟨by simp [TR], rfl⟩

theorem append_row (hs : Mem P fx cx σ w) {t u ty e : TypeId} {i : TI} (ht : P.underlying t = some (.slice e)) (hi : TIok P e i) (hz : 0 < i.size) {k ver n : Nat} {b : Blk} (hb : blkAt σ.L k ver = some b)
    (hbz : b.frz = false) (hbr : b.row = true) (hbt : b.t = e) (hnb : n ≤ b.n) {y x : Value} (hy : VX cx w (.sl k ver 0 n) y) {m : Nat} {news : List Value} {xs : List IV}
    (hsrc : Src P w u x m i.size news) (hxs : TRl cx.R w xs news) (hfl : b.fl = true → ∀ z ∈ xs, ∃ q, z = .v q) (hmax : n + m ≤ maxLen) (hfit : (n + m) * i.bytes ≤ 140737488355328) :
    ∃ y' w' cx', (Builtin.append_ #[t, u] ty #[y, x]).run P w = .ok y' w' ∧ cx.le cx' ∧ cx'.R = cx.R ∧
      Mem P fx cx' { σ with L := σ.L.set k (some { b with n := n + m, cs := b.cs.take (n * i.size) ++ xs, ver := ver + 1 }) } w' ∧ HeapEq cx.R w w' ∧ VX cx' w' (.sl k (ver + 1) 0 (n + m)) y' := by
  obtain ⟨p, q1, q2, q3⟩ := hs.atv hb
  have hv := (blkAt_some hb).2
  subst hbt
  obtain ⟨j, hj, hj2, hj3, zv, hz1, hz2⟩ := hi.info
  have q3 := q3.ofRow hbr
  obtain ⟨j', hj', hsz, hpos⟩ := q3.info
  rw [hj] at hj'; cases hj'
  have hpsz : p.sz = i.size := by rw [← hsz, hj2]
  unfold VX at hy
  obtain ⟨p', e1, e2⟩ := hy
  rw [q2] at e1; cases e1
  have hlt : k < σ.L.length := (List.getElem?_eq_some_iff.1 q1.1).1
  have hzl : zv.cells.size = j.size := by
    have := hz2.length
    rw [hi.zlen] at this
    rw [hj2, ← this]; simp
  have hlen : (b.cs.take (n * i.size)).length = n * i.size := by
    have h1 := q3.len
    have h2 := Nat.mul_le_mul_right p.sz hnb
    rw [← hpsz, List.length_take, h1]; omega
  have hsrc' : Src P w u x m j.size news := by rw [hj2]; exact hsrc
  -- behind the append: the block's new place p', in the world w'
  have done : ∀ (w' : World) (p' : Plc) (y' : Value) (cap' g' : Nat) (cur' : Array Value), Fr w w' (b.rng p) → p' = ⟨.slice (some ⟨g', 0, none⟩) (n + m) cap', i.size⟩ → y' = .slice (some ⟨g', 0, none⟩) (n + m) cap' →
      w'.heap[g']? = some (.cells cur' b.t (0, 0)) → n + m ≤ cap' → cap' ≤ maxLen → cur'.size = cap' * i.size → TRl cx.R w (b.cs.take (n * i.size) ++ xs) (cur'.toList.take ((n + m) * i.size)) →
      ((OwnR.blk g' ∈ b.rng p) ∨ w.heap.size ≤ g') →
      ∃ cx', cx.le cx' ∧ cx'.R = cx.R ∧ Mem P fx cx' { σ with L := σ.L.set k (some { b with n := n + m, cs := b.cs.take (n * i.size) ++ xs, ver := ver + 1 }) } w' ∧ HeapEq cx.R w w' ∧ VX cx' w' (.sl k (ver + 1) 0 (n + m)) y' := by
    intro w' p' y' cap' g' cur' hf hp' hy' hg hcap hmaxl hcur htr hwhere
    subst hp' hy'
    have hR : HeapEq cx.R w w' := fun bb hbb => hf.hblk bb (hs.rlt bb hbb) fun oo ⟨r, hr, hh⟩ => (hs.nor k b p q1 r hr bb oo hh).1 hbz hbb
    let b' : Blk := { b with n := n + m, cs := b.cs.take (n * i.size) ++ xs, ver := ver + 1 }
    have hle : cx.le (cx.add k (ver + 1) ⟨.slice (some ⟨g', 0, none⟩) (n + m) cap', i.size⟩) := Cx.add_le (.inl (by
      cases hp : cx.pl k (ver + 1) with
      | none => rfl
      | some q => have := (hs.plok _ _ _ hp).2 b q1.1; omega))
    have hok : BlkOk P (cx.add k (ver + 1) ⟨.slice (some ⟨g', 0, none⟩) (n + m) cap', i.size⟩) w' ⟨.slice (some ⟨g', 0, none⟩) (n + m) cap', i.size⟩ b' := by
      refine .inl ⟨hbr, ⟨_, ⟨?_, .inr ⟨g', cap', cur', rfl, Nat.zero_le _, hg, hcap, hmaxl, hcur, rfl⟩⟩, ?_⟩, hi.row_info hz, ?_⟩
      · simp only [List.length_take, Array.length_toList, hcur, b']; have := Nat.mul_le_mul_right i.size hcap; omega
      · exact TRl.mono (fun _ h => h) hR _ _ htr
      · intro hfl' z hz
        simp only [b', List.mem_append] at hz
        rcases hz with hz | hz
        · exact q3.flat hfl' z (List.mem_of_mem_take hz)
        · exact hfl hfl' z hz
    refine ⟨cx.add k (ver + 1) ⟨.slice (some ⟨g', 0, none⟩) (n + m) cap', i.size⟩, hle, rfl, ?_, hR, ?_⟩
    · refine hs.turn q1 hbz hf b' _ (.inr (by simp [b', hv])) cx.R (fun _ h => h) (fun _ h => .inl h) hok ?_
      intro r hr bb oo hh
      simp [Blk.rng] at hr
      subst hr
      have hbb : bb = g' := hh
      subst hbb
      refine ⟨?_, fun _ hR' => ?_, fun h' => by simp [b', hbz] at h'⟩
      · exact hwhere.imp (fun h' => ⟨OwnR.blk bb, h', rfl⟩) id
      · rcases hwhere with h' | h'
        · exact (hs.nor k b p q1 _ h' bb 0 rfl).1 hbz hR'
        · have := hs.rlt bb hR'; omega
    · unfold VX
      exact ⟨_, Cx.add_get _ _ _ _, .inr ⟨g', n + m, cap', ⟨g', 0, none⟩, rfl, rfl, by omega, fun _ => by simp⟩⟩
  have hnew : ∀ (base : Option Addr) (c : Nat) (olds : List Value), y = .slice base n c → (∀ w1 : World, w1.heap = w.heap → (Builtin.firstCells j.size n (.slice base n c)).run P w1 = .ok olds.toArray w1) → c < n + m →
      TRl cx.R w (b.cs.take (n * i.size)) olds → olds.length = n * i.size → ∃ y' w' cx', (Builtin.append_ #[t, u] ty #[y, x]).run P w = .ok y' w' ∧ cx.le cx' ∧ cx'.R = cx.R ∧
      Mem P fx cx' { σ with L := σ.L.set k (some { b with n := n + m, cs := b.cs.take (n * i.size) ++ xs, ver := ver + 1 }) } w' ∧ HeapEq cx.R w w' ∧ VX cx' w' (.sl k (ver + 1) 0 (n + m)) y' := by
    intro base c olds hy ho hc htr hol
    have hm63 : n + m ≤ 9223372036854775807 := by simp only [maxLen] at hmax; omega
    have hrun := run_append_new (ty := ty) ht hj hz1 hsrc' ho hc hm63 (by rw [hj3]; exact hfit)
    have hge := grownCap_ge w (n + m) c b.t
    have hcm := grownCap_le_maxLen w (n + m) c b.t hmax
    obtain ⟨cx', h1, h2, h3, h4, h5⟩ := done _ ⟨_, _⟩ _ (grownCap w (n + m) c b.t) w.heap.size (olds.toArray ++ news.toArray ++ Builtin.zeroCells zv.cells (grownCap w (n + m) c b.t - (n + m)))
      (((Fr.drew w []).trans (Fr.alloc_nil w.drew _) (fun _ _ h => .inl h)).mono (fun _ _ ⟨_, h, _⟩ => by simp at h)) rfl rfl (heap_alloc_at w.drew _) hge hcm (by
        simp only [Array.size_append, List.size_toArray, size_zeroCells, hzl, hol, hsrc.num, ← Nat.add_mul, hj2]
        congr 1; omega) (by
        have e : (olds.toArray ++ news.toArray ++ Builtin.zeroCells zv.cells (grownCap w (n + m) c b.t - (n + m))).toList.take ((n + m) * i.size) = olds ++ news := by
          simp only [Array.toList_append]
          have : (n + m) * i.size = (olds ++ news).length := by simp [hol, hsrc.num, Nat.add_mul]
          rw [this]; exact List.take_left
        rw [e]; exact htr.append hxs) (.inr (Nat.le_refl _))
    exact ⟨_, _, cx', by rw [hy]; exact hrun, h1, h2, h3, h4, h5⟩
  rcases e2 with ⟨v1, ⟨base, rfl⟩, _, rfl⟩ | ⟨g, m0, cap, ad, v1, rfl, v3, v4⟩
  · -- a nil slice
    have hcs0 : b.cs.take (0 * i.size) = [] := by simp
    by_cases hm : m = 0
    · subst hm
      have hnil : news = [] := List.eq_nil_of_length_eq_zero (by simpa using hsrc.num)
      subst hnil
      have hxs0 : xs = [] := List.eq_nil_of_length_eq_zero hxs.length.symm
      subst hxs0
      refine ⟨.slice base 0 0, w, cx.add k (ver + 1) p, ?_, ?_, rfl, ?_, HeapEq.refl _ _, ?_⟩
      · rw [run_append_in ht hj hsrc' (by omega)]
        cases base <;> simp [storeCells]
      · exact Cx.add_le (.inl (by
          cases hp : cx.pl k (ver + 1) with
          | none => rfl
          | some q => have := (hs.plok _ _ _ hp).2 b q1.1; omega))
      · have hbn : b.rng p = [] := by simp [Blk.rng, v1]
        refine hs.turn q1 hbz (Fr.refl w _) { b with n := 0 + 0, cs := b.cs.take (0 * i.size) ++ [], ver := ver + 1 } p (.inr (by simp [hv])) cx.R (fun _ h => h) (fun _ h => .inl h) (.inl ⟨hbr, ⟨[], ⟨by simp, .inl ⟨v1, rfl⟩⟩, by simp [TRl]⟩, q3.info, by simp⟩) (by simp [Blk.rng, v1])
      · unfold VX; exact ⟨p, Cx.add_get _ _ _ _, .inl ⟨v1, ⟨base, rfl⟩, rfl, rfl⟩⟩
    · exact hnew base 0 [] rfl (fun w1 _ => by cases base <;> simp [Builtin.firstCells, loadCells, loadCellsFrom]) (by omega) (by rw [hcs0]; simp [TRl]) (by simp)
  · have had := v4 (.inr rfl)
    simp at had
    subst had
    rcases q3.v with ⟨k1, _⟩ | ⟨g', cap', cur, k1, k2, k3, k4, k5, k6, k7⟩
    · rw [v1] at k1; cases k1
    · rw [v1] at k1
      simp only [Value.slice.injEq, Option.some.injEq, Addr.mk.injEq, and_true] at k1
      obtain ⟨rfl, _, rfl⟩ := k1
      have hnc : n * i.size ≤ b.n * p.sz := by rw [hpsz]; exact Nat.mul_le_mul_right _ hnb
      have hbc : b.n * p.sz ≤ cap * p.sz := Nat.mul_le_mul_right _ k3
      have htk : TRl cx.R w (b.cs.take (n * i.size)) (cur.toList.take (n * i.size)) := by
        have := k6.take (n * i.size)
        rw [List.take_take, Nat.min_eq_left hnc] at this
        exact this
      have hol : (cur.toList.take (n * i.size)).length = n * i.size := by simp; omega
      have hcell : ∀ w1 : World, w1.heap = w.heap → ∀ j', w1.cell? ⟨g, j', none⟩ = cur[j']? := fun w1 hw j' => cell_of_row w1 g j' cur b.t (0, 0) (by rw [hw]; exact k2)
      by_cases hroom : n + m ≤ cap
      · have hrun := run_append_in (ty := ty) (base := some ⟨g, 0, none⟩) ht hj hsrc' hroom
        have hfit' : n * i.size + news.length ≤ cur.size := by rw [hsrc.num, k5, hpsz, ← Nat.add_mul]; exact Nat.mul_le_mul_right _ hroom
        have hst := run_storeCells_at P g (n * i.size) b.t news 0 cur w k2 (by simpa using hfit') hsrc.one
        simp only [Nat.add_zero] at hst
        let arr' := (cur.toList.take (n * i.size) ++ news ++ cur.toList.drop (n * i.size + news.length)).toArray
        have hsz' : arr'.size = cur.size := by simp [arr']; simp at hol; omega
        have hf : Fr w (w.setRow g arr') (b.rng p) := Fr.setRow k2 hsz' _ fun j' hj' => absurd ⟨.blk g, by simp [Blk.rng, v1], rfl⟩ hj'
        obtain ⟨cx', h1, h2, h3, h4, h5⟩ := done _ ⟨_, _⟩ _ cap g arr' hf rfl rfl (setRow_heap w g cur arr' b.t (0, 0) k2) hroom k4 (by rw [hsz', k5, hpsz]) (by
          have e : arr'.toList.take ((n + m) * i.size) = cur.toList.take (n * i.size) ++ news := by
            simp only [arr']
            have : (n + m) * i.size = (cur.toList.take (n * i.size) ++ news).length := by rw [List.length_append, hol, hsrc.num, Nat.add_mul]
            rw [this]; exact List.take_left
          rw [e]; exact htk.append hxs) (.inl (by simp [Blk.rng, v1]))
        refine ⟨_, _, cx', ?_, h1, h2, h3, h4, h5⟩
        rw [Nat.sub_zero, hrun]
        simp only [Addr.add_lit, Nat.zero_add, hj2, hst, Result.andThen_ok]
        rfl
      · refine hnew (some ⟨g, 0, none⟩) (cap - 0) (cur.toList.take (n * i.size)) rfl (fun w1 hw => ?_) (by omega) htk hol
        exact run_firstCells_some w1 j.size n ⟨g, 0, none⟩ n (cap - 0) _ (by rw [hol, hj2]) fun j' v hj' => by
          rw [Addr.add_lit, Nat.zero_add, hcell w1 hw]
          rw [List.getElem?_take] at hj'
          split at hj'
          · simpa using hj'
          · cases hj'
end
end Go.Lift
/- One operation: what the evaluator asks and gives, and that the machine does so. -/
namespace Go.Lift
open Go Go.RowKit

def aggEq (op : BinOp) (r : Bool) : Option Bool :=
  match op with
  | .eql => some r
  | .neq => some (!r)
  | _ => none
def TD.isBool : TD → Bool
  | .bool => true
  | _ => false
def TD.isStr : TD → Bool
  | .str => true
  | _ => false
def TD.isSlice : TD → Bool
  | .slice _ => true
  | _ => false
def cut (cs : List IV) (o n size : Nat) : List IV := (cs.drop (o * size)).take (n * size)
def bnd (σ : St) (x : Option Operand) (dflt : Nat) : Option Nat :=
  match x with
  | none => some dflt
  | some x => match ev σ x with
    | some (.v (.int _ n)) => if 0 ≤ n then some n.toNat else none
    | _ => none
def fieldOf (i : TI) (f : Nat) : Option (Nat × TypeId) :=
  match i.desc with
  | .struct fs => fs[f]?
  | _ => none
def partIV (i : TI) (cs : List IV) (off : Nat) : Option IV :=
  if i.isA = true then if off + i.size ≤ cs.length then some (.agg ((cs.drop off).take i.size)) else none else cs[off]?
def evs (σ : St) : List Operand → Option (List IV)
  | [] => some []
  | x :: xs => match ev σ x, evs σ xs with
    | some y, some ys => some (y :: ys)
    | _, _ => none

def srcOf (L : List (Option Blk)) (TT : TTab) (u e : TypeId) (size : Nat) (x : IV) : Option (Nat × List IV) :=
  match TT u with
  | none => none
  | some iu => match iu.desc, x with
    | .slice e', .emp => if e' = e then some (0, []) else none
    | .slice e', .tr m cs => if e' = e ∧ cs.length = m * size then some (m, cs) else none
    | .slice e', .sl k ver o m => if e' = e then match blkAt L k ver with
        | some b => if b.row = true ∧ b.t = e ∧ o + m ≤ b.n then some (m, cut b.cs o m size) else none
        | none => none else none
    | .str, .v (.string s) => if size = 1 then some (s.size, strCells s) else none
    | _, _ => none

def appendTo (σ : St) (TT : TTab) (o : Oper) (t u : TypeId) (x y : IV) (K : St → Prop) : Prop :=
  ob (TT t) fun it => match it.desc with
  | .slice e => ob (TT e) fun ie => ob (srcOf σ.L TT u e ie.size y) fun (m, xs) =>
    match x with
    | .emp => (m ≤ maxLen ∧ m * ie.bytes ≤ 140737488355328) ∧ (ie.flat = true → xs.all isV = true) ∧
        fin o σ (.sl σ.L.length 1 0 m) (σ.L ++ [some ⟨true, e, m, ie.flat, xs, 1, false⟩]) K
    | .sl k ver off n => ob (blkAt σ.L k ver) fun b => (b.frz = false ∧ b.row = true ∧ b.t = e ∧ off = 0 ∧ n ≤ b.n) ∧ (n + m ≤ maxLen ∧ (n + m) * ie.bytes ≤ 140737488355328) ∧ (b.fl = true → xs.all isV = true) ∧
        fin o σ (.sl k (ver + 1) 0 (n + m)) (σ.L.set k (some { b with n := n + m, cs := b.cs.take (n * ie.size) ++ xs, ver := ver + 1 })) K
    | _ => False
  | _ => False

def stepBuiltin (TT : TTab) (o : Oper) (b : Builtin) (ts : Array TypeId) (xs : List IV) (σ : St) (K : St → Prop) : Prop :=
  match b, xs with
  | .len, [.v (.string s)] => ob (ts[0]?) fun t => ob (TT t) fun i => i.desc.isStr = true ∧ fin o σ (.v (.int .i64 s.size)) σ.L K
  | .len, [.emp] => ob (ts[0]?) fun t => ob (TT t) fun i => i.desc.isSlice = true ∧ fin o σ (.v (.int .i64 0)) σ.L K
  | .len, [.tr n _] => ob (ts[0]?) fun t => ob (TT t) fun i => i.desc.isSlice = true ∧ fin o σ (.v (.int .i64 n)) σ.L K
  | .len, [.sl _ _ _ n] => ob (ts[0]?) fun t => ob (TT t) fun i => i.desc.isSlice = true ∧ fin o σ (.v (.int .i64 n)) σ.L K
  | .append, [x, y] => match ts.toList with
    | [t, u] => appendTo σ TT o t u x y K
    | _ => False
  | .real, [.v (.complex k a _)] => fin o σ (.v (.float k a)) σ.L K
  | .imag, [.v (.complex k _ b)] => fin o σ (.v (.float k b)) σ.L K
  | .complex, [.v (.float .f64 a), .v (.float .f64 b)] => fin o σ (.v (.complex .f64 a b)) σ.L K
  | .max, [.v (.float .f64 a), .v (.float .f64 b)] => ob (fmax a b) fun r => fin o σ (.v (.float .f64 r)) σ.L K
  | .min, [.v (.float .f64 a), .v (.float .f64 b)] => ob (fmin a b) fun r => fin o σ (.v (.float .f64 r)) σ.L K
  | .max, [.v (.int k a), .v (.int _ b)] => fin o σ (.v (.int k (if b > a then b else a))) σ.L K
  | .min, [.v (.int k a), .v (.int _ b)] => fin o σ (.v (.int k (if b < a then b else a))) σ.L K
  | _, _ => False

def stepOp (TT : TTab) (o : Oper) (σ : St) (K : St → Prop) : Prop :=
  match o.op with
  | .move x => ob (ev σ x) fun v => fin o σ v σ.L K
  | .assign (.const (.slice none 0 0)) => ob (TT o.type) fun i => match i.desc with
    | .slice e => ob (TT e) fun ie => fin o σ (.sl σ.L.length 0 0 0) (σ.L ++ [some (nilRow e ie.flat)]) K
    | _ => False
  | .assign x => ob (ev σ x) fun v => fin o σ v σ.L K
  | .pick c x y => ob (ev σ c) fun c => match c with
    | .v (.bool t) => ob (if t = true then ev σ x else ev σ y) fun v => fin o σ v σ.L K
    | _ => False
  | .alloc t => ob (TT t) fun i => ob (zeroObj σ.L TT i.zero) fun (cs, rs) => fin o σ (.ptr (σ.L.length + rs.length) 0 0) (σ.L ++ rs ++ [some (objBlk t cs)]) K
  | .box t x => ob (TT t) fun i => ob (ev σ x) fun v => isCell v = true ∧ ob (rowObj σ.L TT i.zero (cellsOf v)) fun (cs, rs) =>
      fin o σ (.ptr (σ.L.length + rs.length) 0 0) (σ.L ++ rs ++ [some (objBlk t cs)]) K
  | .load t x => ob (TT t) fun i => ob (ev σ x) fun v => match v with
    | .ptr k ver off => ob (blkAt σ.L k ver) fun b => ob (loadIV i b.cs off) fun v => fin o σ v σ.L K
    | .rp cs off => ob (loadIV i cs off) fun v => fin o σ v σ.L K
    | _ => False
  | .store t x y => ob (TT t) fun i => ob (ev σ x) fun p => ob (ev σ y) fun v => match p with
    | .ptr k ver off => ob (blkAt σ.L k ver) fun b => ((b.frz = false ∧ (b.row || !b.fl) = true) ∧ (cellsOf v).length = i.size ∧ off + i.size ≤ b.cs.length) ∧ isCell v = true ∧
        (b.row = true → (cellsOf v).all isTree = true ∧ (b.fl = true → (cellsOf v).all isV = true)) ∧ o.dst = none ∧ K { σ with L := σ.L.set k (some { b with cs := putAt b.cs off (cellsOf v) }) }
    | _ => False
  | .nilCheck x => ob (ev σ x) fun v => match v with
    | .ptr _ _ _ => fin o σ v σ.L K
    | .rp _ _ => fin o σ v σ.L K
    | .fn (.func _) _ => fin o σ v σ.L K
    | _ => False
  | .binOp op t x y _ => ob (ev σ x) fun u => ob (ev σ y) fun v => match u, v with
    | .v (.bool p), .v (.bool q) => ob (TT t) fun i => i.desc.isBool = true ∧ ob (pboolEq op p q) fun z => fin o σ (.v z) σ.L K
    | .v p, .v q => ob (pbin op p q) fun z => fin o σ (.v z) σ.L K
    | .agg xs, .agg ys => ob (TT t) fun i => ob i.eqk fun ks => ob (eqCells ks xs ys) fun r => ob (aggEq op r) fun z => fin o σ (.v (.bool z)) σ.L K
    | _, _ => False
  | .unOp op _ x => ob (ev σ x) fun u => match u with
    | .v p => ob (pun op p) fun z => fin o σ (.v z) σ.L K
    | _ => False
  | .fieldAddr s x f => ob (TT s) fun i => ob (fieldOf i f) fun (off, t) => ob (TT t) fun _ => ob (ev σ x) fun v => match v with
    | .ptr k ver p => fin o σ (.ptr k ver (p + off)) σ.L K
    | .rp cs p => fin o σ (.rp cs (p + off)) σ.L K
    | _ => False
  | .field s x f => ob (TT s) fun i => ob (fieldOf i f) fun (off, t) => ob (TT t) fun it => ob (ev σ x) fun v => match v with
    | .agg cs => ob (partIV it cs off) fun v => fin o σ v σ.L K
    | _ => False
  | .indexAddr t x j => ob (TT t) fun i => ob (ev σ x) fun v => ob (ev σ j) fun q => match i.desc, v, q with
    | .slice e, .tr n cs, .v (.int _ j) => ob (TT e) fun ie => (0 ≤ j ∧ j < n ∧ cs ≠ []) ∧ fin o σ (.rp cs (j.toNat * ie.size)) σ.L K
    | .slice e, .sl k ver off n, .v (.int _ j) => ob (TT e) fun ie => ob (blkAt σ.L k ver) fun b => (0 ≤ j ∧ j < n ∧ b.t = e ∧ (b.row || b.fl) = true) ∧ fin o σ (.ptr k ver ((off + j.toNat) * ie.size)) σ.L K
    | .arr n e, .ptr k ver p, .v (.int _ j) => ob (TT e) fun ie => (0 ≤ j ∧ j < n) ∧ fin o σ (.ptr k ver (p + j.toNat * ie.size)) σ.L K
    | _, _, _ => False
  | .index t x j => ob (TT t) fun i => ob (ev σ x) fun v => ob (ev σ j) fun q => match i.desc, v, q with
    | .str, .v (.string s), .v (.int _ j) => (0 ≤ j ∧ j < s.size) ∧ fin o σ (.v (.int .u8 (s.data.toList.getD j.toNat 0).toNat)) σ.L K
    | .arr n e, .agg cs, .v (.int _ j) => ob (TT e) fun ie => (0 ≤ j ∧ j < n) ∧ ob (partIV ie cs (j.toNat * ie.size)) fun v => fin o σ v σ.L K
    | _, _, _ => False
  | .extract x j => ob (ev σ x) fun v => match v with
    | .tup vs => ob (vs[j]?) fun v => fin o σ v σ.L K
    | _ => False
  | .slice t x lo hi none => ob (TT t) fun i => ob (ev σ x) fun v => match i.desc, v with
    | .str, .v (.string s) => ob (bnd σ lo 0) fun l => ob (bnd σ hi s.size) fun h => (l ≤ h ∧ h ≤ s.size) ∧ fin o σ (.v (.string (s.extract l h))) σ.L K
    | .slice e, .tr n cs => ob (TT e) fun ie => ob (bnd σ lo 0) fun l => ob (bnd σ hi n) fun h => (l ≤ h ∧ h ≤ n) ∧ fin o σ (.tr (h - l) (cut cs l (h - l) ie.size)) σ.L K
    | .slice e, .sl k ver off n => ob (TT e) fun _ => ob (blkAt σ.L k ver) fun b => ob (bnd σ lo 0) fun l => ob (bnd σ hi n) fun h => (l ≤ h ∧ h ≤ n ∧ b.t = e ∧ b.row = true) ∧ fin o σ (.sl k ver (off + l) (h - l)) σ.L K
    | .slice e, .emp => ob (TT e) fun _ => ob (bnd σ lo 0) fun l => ob (bnd σ hi 0) fun h => (l = 0 ∧ h = 0) ∧ fin o σ .emp σ.L K
    | _, _ => False
  | .buildSlice t len ps => ob (TT t) fun i => match i.desc with
    | .slice e => ob (TT e) fun ie => ob (litCells ie.size 0 ps.toList σ) fun cs => (len ≤ 1000 ∧ ie.size ≤ 1000 ∧ ps.size = len) ∧ cs.all isTree = true ∧ (ie.flat = true → cs.all isV = true) ∧
        fin o σ (.sl σ.L.length 0 0 len) (σ.L ++ [some ⟨true, e, len, ie.flat, cs, 0, false⟩]) K
    | _ => False
  | .build t ps => ob (TT t) fun i => match i.desc with
    | .struct fs => ob (evs σ (ps.toList.map (·.2))) fun vs => ob (fillIV TT fs (i.zero.map ZC.iv) ((ps.toList.map (·.1)).zip vs)) fun cs => (fs.all fun f => (TT f.2).isSome) = true ∧ fin o σ (.agg cs) σ.L K
    | _ => False
  | .convert s d x => ob (TT s) fun is => ob (TT d) fun id => ob (ev σ x) fun v => match id.num, v with
    | some k, .v (.int _ n) => fin o σ (.v (.int k (k.wrap n))) σ.L K
    | some k, .v (.float .f64 b) => ob (floatToIntVal .f64 b k) fun n => fin o σ (.v (.int k n)) σ.L K
    | _, v => match is.desc, id.desc, v with
      | .slice e, .str, v => ob (TT e) fun ie => (ie.num = some .u8 ∧ ie.size = 1) ∧ ob (srcOf σ.L TT s e 1 v) fun (_, cs) => ob (bytesOfCells cs) fun bs => fin o σ (.v (.string ⟨bs.toArray⟩)) σ.L K
      | _, .float, .v (.int _ n) => fin o σ (.v (.float .f64 (FloatKind.f64.nearest n))) σ.L K
      | .str, .slice e, .v (.string s) => ob (TT e) fun ie => ie.num = some .u8 ∧ fin o σ (.tr s.size (strCells s)) σ.L K
      | _, _, _ => False
  | .call c => match c.callee with
    | .builtin b => ob (evs σ c.args.toList) fun xs => stepBuiltin TT o b c.argTypes xs σ K
    | _ => False
  | _ => False
end Go.Lift
/- One operation: the machine does what the evaluator says (part 1). -/
namespace Go.Lift
open Go Go.RowKit

section
variable {P : Program} {TT : TTab} {fx : Fx} {cx : Cx} {σ : St} {a : Act} {w : World} {o : Oper} {K : St → Prop} {next : Act → World → Prop} {Q : Exit → Act → World → Prop}

def Nx (P : Program) (fx : Fx) (cx : Cx) (K : St → Prop) (next : Act → World → Prop) : Prop := ∀ σ' cx' a' w', K σ' → cx.le cx' → Sim P fx cx' σ' a' w' → next a' w'

theorem step_move {x : Operand} (ho : o.op = .move x ∨ o.op = .assign x) (hs : Sim P fx cx σ a w) (hK : ob (ev σ x) fun v => fin o σ v σ.L K) (hn : Nx P fx cx K next) : o.wp P a w next Q := by
  obtain ⟨v, h1, h2⟩ := ob_elim hK
  refine pure_sound hs (y := a.eval x) ?_ (ev_sound hs.s h1) h2 hn
  rcases ho with ho | ho <;> simp [execOp, ho]
theorem step_pick {c x y : Operand} {t : Bool} {v : IV} (ho : o.op = .pick c x y) (hs : Sim P fx cx σ a w) (hc : ev σ c = some (.v (.bool t))) (hv : (if t = true then ev σ x else ev σ y) = some v) (h2 : fin o σ v σ.L K) (hn : Nx P fx cx K next) : o.wp P a w next Q := by
  have e := VX.v_inv (ev_sound hs.s hc)
  cases t
  · refine pure_sound hs (y := a.eval y) ?_ (ev_sound hs.s (by simpa using hv)) h2 hn
    simp [execOp, ho, e, asBool]
  · refine pure_sound hs (y := a.eval x) ?_ (ev_sound hs.s (by simpa using hv)) h2 hn
    simp [execOp, ho, e, asBool]
theorem step_assign_nil {e : TypeId} {ie : TI} (htt : TTok P TT) (ho : o.op = .assign (.const (.slice none 0 0))) (hs : Sim P fx cx σ a w) (he : TT e = some ie) (h2 : fin o σ (.sl σ.L.length 0 0 0) (σ.L ++ [some (nilRow e ie.flat)]) K) (hn : Nx P fx cx K next) : o.wp P a w next Q := by
  have hi := htt _ _ he
  obtain ⟨cx', k1, k0, k2, k3⟩ := push_nil hs.m hi hi.pos
  exact fin_sound hs.s (y := .slice none 0 0) (by simp [execOp, ho, Act.eval]) k1 k2 (HeapEq.refl _ _) k3 h2 hn

theorem run_zeroValue {t : TypeId} {j : TypeInfo} {z : Value} (hj : P.info? t = some j) (hz : j.zero = some z) : (zeroValue t).run P w = .ok z w := by
  simp [zeroValue, typeInfo, hj, hz]
theorem step_alloc {t : TypeId} {i : TI} {cs : List IV} {rs : List (Option Blk)} (htt : TTok P TT) (ho : o.op = .alloc t) (hs : Sim P fx cx σ a w) (ht : TT t = some i) (hz : zeroObj σ.L TT i.zero = some (cs, rs))
    (h2 : fin o σ (.ptr (σ.L.length + rs.length) 0 0) (σ.L ++ rs ++ [some (objBlk t cs)]) K) (hn : Nx P fx cx K next) : o.wp P a w next Q := by
  obtain ⟨j, hj, _, _, z, hz1, hz2⟩ := (htt _ _ ht).info
  obtain ⟨cx1, k1, k0, k2, k3, k4⟩ := zeroObj_sound htt hs.m hz hz2 (fun _ _ e i' _ hi' => (htt _ _ hi').pos)
  obtain ⟨cx2, l1, l0, l2, l3, l4⟩ := push_obj k2 t k3 k4
  refine fin_sound (w' := w.alloc (.cells z.cells t)) (y := .pointer (some ⟨w.heap.size, 0, none⟩)) hs.s ?_ (Cx.le_trans k1 l1) ?_ ?_ ?_ h2 hn
  · simp [execOp, ho, Instr.alloc, run_zeroValue hj hz1, newVar, newRow]
  · simpa using l2
  · have := l3; rw [k0] at this; simpa using this
  · have := l4; simpa using this
theorem VXl.one_of {v : IV} {y : Value} (h : VX cx w v y) (hv : isCell v = true) : VXl cx w (cellsOf v) y.cells.toList ∧ ∀ z ∈ y.cells.toList, z.oneCell' = true := by
  have sc : ∀ {v : IV} {y : Value}, VX cx w v y → isScalar v = true → y.oneCell' = true := by
    intro v y h hv
    cases v <;> simp [isScalar] at hv <;> unfold VX at h
    · subst h; exact hv
    · obtain ⟨b, rfl⟩ := h; rfl
    · unfold TR at h; obtain ⟨b, c, rfl, _⟩ := h; rfl
    · obtain ⟨p, _, h⟩ := h
      rcases h with ⟨_, ⟨b, rfl⟩, _⟩ | ⟨_, _, _, _, _, rfl, _⟩ <;> rfl
    · obtain ⟨p, _, _, _, _, rfl⟩ := h; rfl
    · obtain ⟨arr, rfl, _⟩ := h; rfl
    · obtain ⟨p, _, _, _, rfl⟩ := h; rfl
    · obtain ⟨p, _, _, _, _, _, a, rfl⟩ := h; rfl
  by_cases hA : ∃ cs, v = .agg cs
  · obtain ⟨cs, rfl⟩ := hA
    unfold VX at h
    obtain ⟨arr, rfl, h1, h2⟩ := h
    exact ⟨h1, h2⟩
  · have hv' : isScalar v = true := by cases v <;> first | exact absurd ⟨_, rfl⟩ hA | simpa [isCell] using hv
    have h1 := sc h hv'
    have hc : cellsOf v = [v] := by cases v <;> first | exact absurd ⟨_, rfl⟩ hA | rfl
    have hy : y.cells = #[y] := by cases y <;> first | rfl | (simp [Value.oneCell'] at h1)
    rw [hc, hy]
    exact ⟨VXl.cons h VXl.nil, by simp [h1]⟩
theorem step_box {t : TypeId} {x : Operand} {i : TI} {v : IV} {cs : List IV} {rs : List (Option Blk)} (htt : TTok P TT) (ho : o.op = .box t x) (hs : Sim P fx cx σ a w) (hv : ev σ x = some v)
    (hsc : isCell v = true) (hz : rowObj σ.L TT i.zero (cellsOf v) = some (cs, rs))
    (h2 : fin o σ (.ptr (σ.L.length + rs.length) 0 0) (σ.L ++ rs ++ [some (objBlk t cs)]) K) (hn : Nx P fx cx K next) : o.wp P a w next Q := by
  obtain ⟨e1, e2⟩ := VXl.one_of (ev_sound hs.s hv) hsc
  obtain ⟨cx1, k1, k0, k2, k3⟩ := rowObj_sound htt hs.m hz e1 e2 (fun _ _ e i' _ hi' => (htt _ _ hi').pos)
  obtain ⟨cx2, l1, l0, l2, l3, l4⟩ := push_obj k2 t k3 e2
  refine fin_sound (w' := w.alloc (.cells (a.eval x).cells t)) (y := .pointer (some ⟨w.heap.size, 0, none⟩)) hs.s ?_ (Cx.le_trans k1 l1) ?_ ?_ ?_ h2 hn
  · simp [execOp, ho, Instr.box, newVar, newRow]
  · simpa using l2
  · have := l3; rw [k0] at this; simpa using this
  · have := l4; simpa using this
theorem step_load {t : TypeId} {x : Operand} {i : TI} {k ver off : Nat} {b : Blk} {v : IV} (htt : TTok P TT) (ho : o.op = .load t x) (hs : Sim P fx cx σ a w) (ht : TT t = some i) (hx : ev σ x = some (.ptr k ver off))
    (hb : blkAt σ.L k ver = some b) (hv : loadIV i b.cs off = some v) (h2 : fin o σ v σ.L K) (hn : Nx P fx cx K next) : o.wp P a w next Q := by
  obtain ⟨u, r1, r2⟩ := load_sound hs (htt _ _ ht) hb (ev_sound hs.s hx) hv (htt _ _ ht).pos
  exact pure_sound hs (by simp [execOp, ho, r1]) r2 h2 hn
theorem step_load_ro {t : TypeId} {x : Operand} {i : TI} {off : Nat} {cs : List IV} {v : IV} (htt : TTok P TT) (ho : o.op = .load t x) (hs : Sim P fx cx σ a w) (ht : TT t = some i) (hx : ev σ x = some (.rp cs off))
    (hv : loadIV i cs off = some v) (h2 : fin o σ v σ.L K) (hn : Nx P fx cx K next) : o.wp P a w next Q := by
  obtain ⟨u, r1, r2⟩ := load_ro_sound (htt _ _ ht) (ev_sound hs.s hx) hv (htt _ _ ht).pos
  exact pure_sound hs (by simp [execOp, ho, r1]) r2 h2 hn
theorem TR_of_tree {v : IV} {y : Value} (h : VX cx w v y) (ht : isTree v = true) : TR cx.R w v y ∧ y.oneCell' = true := by
  cases v <;> simp [isTree] at ht <;> unfold VX at h
  · subst h; exact ⟨by simp [TR], ht⟩
  · obtain ⟨b, rfl⟩ := h; exact ⟨by simp [TR], rfl⟩
  · refine ⟨h, ?_⟩
    unfold TR at h; obtain ⟨b, c, rfl, _⟩ := h; rfl
theorem TRl_of_tree : ∀ {vs : List IV} {ys : List Value}, VXl cx w vs ys → vs.all isTree = true → TRl cx.R w vs ys
  | [], ys, h, _ => by unfold VXl at h; unfold TRl; exact h
  | v :: vs, ys, h, ht => by
    unfold VXl at h; unfold TRl
    obtain ⟨y, ys', h1, h2, h3⟩ := h
    simp at ht
    exact ⟨y, ys', h1, TR_of_tree h2 ht.1, TRl_of_tree h3 (by simpa using ht.2)⟩
theorem all_isV {vs : List IV} (h : vs.all isV = true) : ∀ z ∈ vs, ∃ q, z = .v q := by
  intro z hz
  have := List.all_eq_true.1 h z hz
  cases z <;> simp [isV] at this
  exact ⟨_, rfl⟩
theorem step_store {t : TypeId} {x y : Operand} {i : TI} {k ver off : Nat} {b : Blk} {v : IV} (htt : TTok P TT) (ho : o.op = .store t x y) (hs : Sim P fx cx σ a w) (ht : TT t = some i) (hx : ev σ x = some (.ptr k ver off)) (hy : ev σ y = some v)
    (hb : blkAt σ.L k ver = some b) (hz : b.frz = false ∧ (b.row || !b.fl) = true) (hl : (cellsOf v).length = i.size) (hl2 : off + i.size ≤ b.cs.length) (hsc : isCell v = true)
    (hr : b.row = true → (cellsOf v).all isTree = true ∧ (b.fl = true → (cellsOf v).all isV = true)) (hd : o.dst = none) (h2 : K { σ with L := σ.L.set k (some { b with cs := putAt b.cs off (cellsOf v) }) }) (hn : Nx P fx cx K next) : o.wp P a w next Q := by
  obtain ⟨e1, e2⟩ := VXl.one_of (ev_sound hs.s hy) hsc
  obtain ⟨w', r1, r2, r3⟩ := store_sound hs (htt _ _ ht) hb hz.1 (ev_sound hs.s hx) e1 e2 hl hl2 (htt _ _ ht).pos hz.2 fun hbr => ⟨TRl_of_tree e1 (hr hbr).1, fun hf => all_isV ((hr hbr).2 hf)⟩
  unfold Oper.wp
  have hrun : (execOp a.eval o).run P w = .ok .skip w' := by simp [execOp, ho, r1]
  rw [hrun]
  show next (a.put o.dst undef) w'
  rw [hd]
  exact hn _ cx _ _ h2 (Cx.le_refl _) ⟨r2, hs.s.mono (fun _ _ h => h) rfl (Cx.le_refl _) r3⟩
theorem step_nilCheck {x : Operand} {v : IV} (ho : o.op = .nilCheck x) (hs : Sim P fx cx σ a w) (hx : ev σ x = some v) (hv : (∃ k ver p, v = .ptr k ver p) ∨ (∃ cs p, v = .rp cs p) ∨ ∃ f cs, v = .fn (.func f) cs)
    (h2 : fin o σ v σ.L K) (hn : Nx P fx cx K next) : o.wp P a w next Q := by
  have h := ev_sound hs.s hx
  refine pure_sound hs (y := a.eval x) ?_ h h2 hn
  rcases hv with ⟨k, ver, p, rfl⟩ | ⟨cs, p, rfl⟩ | ⟨f, cs, rfl⟩ <;> unfold VX at h
  · obtain ⟨p, _, _, _, _, e⟩ := h; simp [execOp, ho, e]
  · obtain ⟨b, d, e, _⟩ := h; simp [execOp, ho, e]
  · obtain ⟨arr, e, _⟩ := h; simp [execOp, ho, e]
theorem step_binOp {op : BinOp} {t t' : TypeId} {x y : Operand} {p q z : Value} (ho : o.op = .binOp op t x y t') (hs : Sim P fx cx σ a w) (hx : ev σ x = some (.v p)) (hy : ev σ y = some (.v q)) (hz : pbin op p q = some z)
    (h2 : fin o σ (.v z) σ.L K) (hn : Nx P fx cx K next) : o.wp P a w next Q := by
  have e1 := VX.v_inv (ev_sound hs.s hx)
  have e2 := VX.v_inv (ev_sound hs.s hy)
  exact pure_sound hs (y := z) (by simp [execOp, ho, e1, e2, pbin_guard hz, pbin_sound hz]) (by simp [VX]) h2 hn
theorem step_boolEq {op : BinOp} {t t' : TypeId} {x y : Operand} {p q : Bool} {z : Value} {i : TI} (htt : TTok P TT) (ho : o.op = .binOp op t x y t') (hs : Sim P fx cx σ a w) (hx : ev σ x = some (.v (.bool p))) (hy : ev σ y = some (.v (.bool q)))
    (ht : TT t = some i) (hd : i.desc.isBool = true) (hz : pboolEq op p q = some z) (h2 : fin o σ (.v z) σ.L K) (hn : Nx P fx cx K next) : o.wp P a w next Q := by
  have e1 := VX.v_inv (ev_sound hs.s hx)
  have e2 := VX.v_inv (ev_sound hs.s hy)
  obtain ⟨d, d1, d2, _⟩ := (htt _ _ ht).desc
  have : P.underlying t = some .bool := by
    cases hh : i.desc <;> rw [hh] at hd d2 <;> simp [TD.isBool] at hd
    simp only [DescOk] at d2
    rw [d1, d2]
  exact pure_sound hs (y := z) (by simp [execOp, ho, e1, e2, eqGuard_run (P := P) (op := op) (t := t) (x := x) (y := y) (u := .bool p) (v := .bool q) rfl, pboolEq_sound this hz]) (by simp [VX]) h2 hn
theorem eqCells_vals : ∀ {ks : List CK} {xs ys : List IV} {us vs : List Value} {r : Bool}, eqCells ks xs ys = some r → VXl cx w xs us → VXl cx w ys vs → eqVals ks us vs = some r := by
  intro ks
  induction ks with
  | nil =>
    intro xs ys us vs r h hu hv
    cases xs <;> cases ys <;> simp [eqCells] at h
    unfold VXl at hu hv; subst hu hv; simpa [eqVals] using h
  | cons k ks ih =>
    intro xs ys us vs r h hu hv
    cases xs with
    | nil => cases k <;> simp [eqCells] at h
    | cons x xs =>
    cases ys with
    | nil => cases k <;> cases x <;> simp [eqCells] at h
    | cons y ys =>
    unfold VXl at hu hv
    obtain ⟨u, us', rfl, hu1, hu2⟩ := hu
    obtain ⟨v, vs', rfl, hv1, hv2⟩ := hv
    cases x with
    | v x =>
      cases y with
      | v y =>
        have eu := VX.v_inv hu1
        have ev' := VX.v_inv hv1
        subst eu ev'
        by_cases hk : k = .complex
        · subst hk
          cases u <;> cases v <;> try (simp [eqCells] at h; done)
          rename_i k a b k' c d
          cases k <;> cases k' <;> try (simp [eqCells] at h; done)
          rw [eqCells, Option.map_eq_some_iff] at h
          obtain ⟨r', h1, rfl⟩ := h
          rw [eqVals, ih h1 hu2 hv2]; rfl
        cases k <;> first | exact absurd rfl hk | skip
        all_goals cases u <;> try (simp [eqCells] at h; done)
        all_goals cases v <;> try (simp [eqCells] at h; done)
        all_goals
          simp [eqCells] at h
          simp [eqVals]
        · obtain ⟨h0, h⟩ := h
          exact ⟨h0, h.imp (fun h => ⟨ih h.1 hu2 hv2, h.2⟩) (fun h => ⟨ih h.1 hu2 hv2, h.2⟩)⟩
        · exact h.imp (fun h => ⟨ih h.1 hu2 hv2, h.2⟩) (fun h => ⟨ih h.1 hu2 hv2, h.2⟩)
        · exact h.imp (fun h => ⟨ih h.1 hu2 hv2, h.2⟩) (fun h => ⟨ih h.1 hu2 hv2, h.2⟩)
      | _ => cases k <;> cases x <;> simp [eqCells] at h
    | _ => cases k <;> simp [eqCells] at h
theorem step_aggEq {op : BinOp} {t t' : TypeId} {x y : Operand} {xs ys : List IV} {i : TI} {ks : List CK} {r : Bool} (htt : TTok P TT) (ho : o.op = .binOp op t x y t') (hs : Sim P fx cx σ a w) (hx : ev σ x = some (.agg xs)) (hy : ev σ y = some (.agg ys))
    (ht : TT t = some i) (hk : i.eqk = some ks) (hr : eqCells ks xs ys = some r) {z : Bool} (hz : aggEq op r = some z) (h2 : fin o σ (.v (.bool z)) σ.L K) (hn : Nx P fx cx K next) : o.wp P a w next Q := by
  have e1 := ev_sound hs.s hx
  have e2 := ev_sound hs.s hy
  unfold VX at e1 e2
  obtain ⟨ax, ex, x1, _⟩ := e1
  obtain ⟨ay, ey, y1, _⟩ := e2
  obtain ⟨g1, g2⟩ := (htt _ _ ht).eqk ks hk
  have hrun := g2 w ax ay r (eqCells_vals hr x1 y1)
  refine pure_sound hs (y := .bool z) ?_ (by simp [VX]) h2 hn
  cases op <;> simp only [aggEq, Option.some.injEq, reduceCtorEq] at hz
  · rw [← hz]; simp [execOp, ho, ex, ey, eqGuard, g1, binOp, Op.equal, hrun]
  · rw [← hz]; simp [execOp, ho, ex, ey, eqGuard, g1, binOp, Op.equal, hrun]
theorem step_unOp {op : UnOp} {t : TypeId} {x : Operand} {p z : Value} (ho : o.op = .unOp op t x) (hs : Sim P fx cx σ a w) (hx : ev σ x = some (.v p)) (hz : pun op p = some z) (h2 : fin o σ (.v z) σ.L K) (hn : Nx P fx cx K next) : o.wp P a w next Q := by
  have e1 := VX.v_inv (ev_sound hs.s hx)
  exact pure_sound hs (y := z) (by simp [execOp, ho, e1, pun_sound hz]) (by simp [VX]) h2 hn
end
end Go.Lift
/- One operation: the machine does what the evaluator says (part 2). -/
namespace Go.Lift
open Go Go.RowKit

section
variable {P : Program} {TT : TTab} {fx : Fx} {cx : Cx} {σ : St} {a : Act} {w : World} {o : Oper} {K : St → Prop} {next : Act → World → Prop} {Q : Exit → Act → World → Prop}

theorem field_info {s : TypeId} {i : TI} {f off : Nat} {t : TypeId} (hi : TIok P s i) (hf : fieldOf i f = some (off, t)) : ∃ gs : Array Field, P.underlying s = some (.struct gs) ∧ ∃ fl, gs[f]? = some fl ∧ fl.offset = off ∧ fl.type = t := by
  obtain ⟨d, h1, h2, _⟩ := hi.desc
  unfold fieldOf at hf
  cases hd : i.desc <;> rw [hd] at hf h2 <;> simp at hf
  rename_i fs
  obtain ⟨gs, rfl, hg⟩ := h2
  refine ⟨gs, h1, ?_⟩
  rw [← hg, List.getElem?_map, Option.map_eq_some_iff] at hf
  obtain ⟨fl, e1, e2⟩ := hf
  refine ⟨fl, by simpa using e1, ?_⟩
  cases e2; exact ⟨rfl, rfl⟩
theorem run_fieldAt {s : TypeId} {i it : TI} {f off : Nat} {t : TypeId} (htt : TTok P TT) (hs : TT s = some i) (hf : fieldOf i f = some (off, t)) (ht : TT t = some it) (g d : Nat) :
    (Instr.fieldAt s (.pointer (some ⟨g, d, none⟩)) f).run P w = .ok (.pointer (some ⟨g, d + off, none⟩)) w := by
  obtain ⟨gs, h1, fl, h2, h3, h4⟩ := field_info (htt _ _ hs) hf
  have hsz := sizeOf_run (P := P) (w := w) (htt _ _ ht)
  have hp := (htt _ _ ht).pos
  simp only [Instr.fieldAt, Sem.run_bind, run_underlying h1, Result.andThen_ok, h2, Instr.sureAddr, Sem.run_pure, fieldPlace, h4, hsz]
  rw [if_neg (by omega)]
  simp [Addr.add_lit, h3]
theorem step_fieldAddr {s : TypeId} {x : Operand} {f : Nat} {i it : TI} {off : Nat} {t : TypeId} {k ver p : Nat} (htt : TTok P TT) (ho : o.op = .fieldAddr s x f) (hs : Sim P fx cx σ a w) (h1 : TT s = some i) (hf : fieldOf i f = some (off, t)) (ht : TT t = some it)
    (hx : ev σ x = some (.ptr k ver p)) (h2 : fin o σ (.ptr k ver (p + off)) σ.L K) (hn : Nx P fx cx K next) : o.wp P a w next Q := by
  have h := ev_sound hs.s hx
  unfold VX at h
  obtain ⟨pl, p1, g, d, p2, e⟩ := h
  refine pure_sound hs (y := .pointer (some ⟨g, d + p + off, none⟩)) (by simp [execOp, ho, e, run_fieldAt htt h1 hf ht]) ?_ h2 hn
  unfold VX
  exact ⟨pl, p1, g, d, p2, by rw [Nat.add_assoc]⟩
theorem step_fieldAddr_ro {s : TypeId} {x : Operand} {f : Nat} {i it : TI} {off : Nat} {t : TypeId} {cs : List IV} {p : Nat} (htt : TTok P TT) (ho : o.op = .fieldAddr s x f) (hs : Sim P fx cx σ a w) (h1 : TT s = some i) (hf : fieldOf i f = some (off, t)) (ht : TT t = some it)
    (hx : ev σ x = some (.rp cs p)) (h2 : fin o σ (.rp cs (p + off)) σ.L K) (hn : Nx P fx cx K next) : o.wp P a w next Q := by
  have h := ev_sound hs.s hx
  unfold VX at h
  obtain ⟨b, d, e, p1⟩ := h
  refine pure_sound hs (y := .pointer (some ⟨b, d + p + off, none⟩)) (by simp [execOp, ho, e, run_fieldAt htt h1 hf ht]) ?_ h2 hn
  unfold VX
  exact ⟨b, d, by rw [Nat.add_assoc], p1⟩
theorem run_part {t : TypeId} {i : TI} (hi : TIok P t i) {cs : List IV} {off : Nat} {v : IV} (hv : partIV i cs off = some v) {arr : Array Value} (hc : VXl cx w cs arr.toList) (h1 : ∀ z ∈ arr.toList, z.oneCell' = true) :
    ∃ y, (part t arr off).run P w = .ok y w ∧ VX cx w v y := by
  unfold partIV at hv
  split at hv
  · rename_i hA
    split at hv
    · rename_i hl
      cases hv
      refine ⟨.agg (arr.extract off (off + i.size)), by simp [part, isAgg_run hi, hA, sizeOf_run hi], ?_⟩
      unfold VX
      refine ⟨_, rfl, ?_, fun z hz => h1 z ?_⟩
      · have hlen : arr.toList.length = cs.length := hc.length
        have e : (arr.extract off (off + i.size)).toList = (arr.toList.drop off).take i.size := by
          simp [List.extract_eq_take_drop]
        rw [e]
        refine VXl.of_get (by simp; simp at hlen; omega) fun j x y hx hy => ?_
        rw [List.getElem?_take] at hx hy
        split at hx
        · rw [if_pos ‹_›, List.getElem?_drop] at hy
          rw [List.getElem?_drop] at hx
          obtain ⟨y', q1, q2⟩ := hc.get _ _ hx
          rw [q1] at hy; cases hy; exact q2
        · cases hx
      · simp [List.extract_eq_take_drop] at hz
        simpa using List.mem_of_mem_drop (List.mem_of_mem_take hz)
    · cases hv
  · rename_i hA
    obtain ⟨y, q1, q2⟩ := hc.get _ _ hv
    refine ⟨y, ?_, q2⟩
    have q1' : arr[off]? = some y := by simpa using q1
    simp [part, isAgg_run hi, hA, q1']
theorem step_field {s : TypeId} {x : Operand} {f : Nat} {i it : TI} {off : Nat} {t : TypeId} {cs : List IV} {v : IV} (htt : TTok P TT) (ho : o.op = .field s x f) (hs : Sim P fx cx σ a w) (h1 : TT s = some i) (hf : fieldOf i f = some (off, t)) (ht : TT t = some it)
    (hx : ev σ x = some (.agg cs)) (hv : partIV it cs off = some v) (h2 : fin o σ v σ.L K) (hn : Nx P fx cx K next) : o.wp P a w next Q := by
  have h := ev_sound hs.s hx
  unfold VX at h
  obtain ⟨arr, e, c1, c2⟩ := h
  obtain ⟨gs, g1, fl, g2, g3, g4⟩ := field_info (htt _ _ h1) hf
  obtain ⟨y, r1, r2⟩ := run_part (htt _ _ ht) hv c1 c2
  exact pure_sound hs (y := y) (by simp [execOp, ho, e, Instr.field, run_underlying g1, g2, asAgg, g3, g4, r1]) r2 h2 hn

theorem slice_under {t e : TypeId} {i : TI} (hi : TIok P t i) (hd : i.desc = .slice e) : P.underlying t = some (.slice e) := by
  obtain ⟨d, h1, h2, _⟩ := hi.desc
  rw [hd] at h2; simp only [DescOk] at h2; rw [h1, h2]
theorem arr_under {t e : TypeId} {n : Nat} {i : TI} (hi : TIok P t i) (hd : i.desc = .arr n e) : P.underlying t = some (.array n e) := by
  obtain ⟨d, h1, h2, _⟩ := hi.desc
  rw [hd] at h2; simp only [DescOk] at h2; rw [h1, h2]
theorem str_under {t : TypeId} {i : TI} (hi : TIok P t i) (hd : i.desc = .str) : P.underlying t = some .string := by
  obtain ⟨d, h1, h2, _⟩ := hi.desc
  rw [hd] at h2; simp only [DescOk] at h2; rw [h1, h2]

theorem run_indexAt_slice {t e : TypeId} {ie : TI} (ht : P.underlying t = some (.slice e)) (he : TIok P e ie) {b o' n c : Nat} {k : IntKind} {j : Int} (h0 : 0 ≤ j) (hj : j < n) :
    (Instr.indexAt t (.slice (some ⟨b, o', none⟩) n c) (.int k j)).run P w = .ok (.pointer (some ⟨b, o' + j.toNat * ie.size, none⟩)) w := by
  simp [Instr.indexAt, asIntOf, run_underlying ht, h0, hj, sizeOf_run he, Addr.add_lit]
theorem step_indexAddr_ro {t e : TypeId} {x y : Operand} {i ie : TI} {n : Nat} {cs : List IV} {k : IntKind} {j : Int} (htt : TTok P TT) (ho : o.op = .indexAddr t x y) (hs : Sim P fx cx σ a w) (h1 : TT t = some i) (hd : i.desc = .slice e) (he : TT e = some ie)
    (hx : ev σ x = some (.tr n cs)) (hy : ev σ y = some (.v (.int k j))) (h0 : 0 ≤ j) (hj : j < n) (hne : cs ≠ []) (h2 : fin o σ (.rp cs (j.toNat * ie.size)) σ.L K) (hn : Nx P fx cx K next) : o.wp P a w next Q := by
  have h := ev_sound hs.s hx
  have ey := VX.v_inv (ev_sound hs.s hy)
  unfold VX TR at h
  obtain ⟨b, c, e1, _, h3⟩ := h
  rcases h3 with h3 | ⟨g, d, rfl, hR, hm⟩
  · exact absurd h3 hne
  · refine pure_sound hs (y := .pointer (some ⟨g, d + j.toNat * ie.size, none⟩)) (by simp [execOp, ho, e1, ey, run_indexAt_slice (slice_under (htt _ _ h1) hd) (htt _ _ he) h0 hj]) ?_ h2 hn
    unfold VX
    exact ⟨g, d, rfl, .inr ⟨hR, hm⟩⟩
theorem row_info {k ver : Nat} {b : Blk} {p : Plc} {ie : TI} (hs : Mem P fx cx σ w) (hb : blkAt σ.L k ver = some b) (hr : b.row = true) (he : TIok P b.t ie) (hp : cx.pl k ver = some p) : p.sz = ie.size ∧ RowOk P cx w p b := by
  obtain ⟨p', q1, q2, q3⟩ := hs.atv hb
  rw [hp] at q2; cases q2
  have q3 := q3.ofRow hr
  obtain ⟨j', hj', hsz, _⟩ := q3.info
  obtain ⟨j, hj, hj2, _⟩ := he.info
  rw [hj] at hj'; cases hj'
  exact ⟨by rw [← hsz, hj2], q3⟩
theorem step_indexAddr {t e : TypeId} {x y : Operand} {i ie : TI} {k ver off n : Nat} {b : Blk} {kk : IntKind} {j : Int} (htt : TTok P TT) (ho : o.op = .indexAddr t x y) (hs : Sim P fx cx σ a w) (h1 : TT t = some i) (hd : i.desc = .slice e) (he : TT e = some ie)
    (hx : ev σ x = some (.sl k ver off n)) (hy : ev σ y = some (.v (.int kk j))) (hb : blkAt σ.L k ver = some b) (h0 : 0 ≤ j) (hj : j < n) (hbt : b.t = e) (hr : (b.row || b.fl) = true) (h2 : fin o σ (.ptr k ver ((off + j.toNat) * ie.size)) σ.L K) (hn : Nx P fx cx K next) : o.wp P a w next Q := by
  have h := ev_sound hs.s hx
  have ey := VX.v_inv (ev_sound hs.s hy)
  unfold VX at h
  obtain ⟨p, p1, p2⟩ := h
  subst hbt
  rcases p2 with ⟨_, _, _, rfl⟩ | ⟨g, m, cap, ad, v1, v2, v3, v4⟩
  · omega
  · have hsz : p.sz = ie.size := by
      cases hrow : b.row with
      | true => exact (row_info hs.m hb hrow (htt _ _ he) p1).1
      | false =>
        obtain ⟨p', q1, q2, q3⟩ := hs.m.atv hb
        rw [q2] at p1; cases p1
        rcases q3 with ⟨z, _⟩ | ⟨_, _, q3⟩ | ⟨_, _, _, q3 | q3 | q3⟩
        · rw [hrow] at z; cases z
        · obtain ⟨_, _, _, _, z, _⟩ := q3.ex
          rw [v1] at z; cases z
        · obtain ⟨_, _, _, z, _⟩ := q3.ex
          rw [v1] at z; cases z
        · obtain ⟨i', hi', hs'⟩ := q3.info
          obtain ⟨j', hj', hjs', _⟩ := (htt _ _ he).info
          rw [hi'] at hj'; cases hj'
          rw [q3.sz, ← hjs', hs']
        · obtain ⟨_, _, z, _⟩ := q3.ex
          rw [v1] at z; cases z
    have had := v4 (.inl (by omega))
    subst had
    refine pure_sound hs (y := .pointer (some ⟨g, off * p.sz + j.toNat * ie.size, none⟩)) (by simp [execOp, ho, v2, ey, run_indexAt_slice (slice_under (htt _ _ h1) hd) (htt _ _ he) h0 hj]) ?_ h2 hn
    unfold VX
    exact ⟨p, p1, g, 0, .inr ⟨rfl, m, cap, v1⟩, by rw [hsz, Nat.zero_add, Nat.add_mul]⟩
theorem step_indexAddr_arr {t e : TypeId} {x y : Operand} {i ie : TI} {k ver off n : Nat} {kk : IntKind} {j : Int} (htt : TTok P TT) (ho : o.op = .indexAddr t x y) (hs : Sim P fx cx σ a w) (h1 : TT t = some i) (hd : i.desc = .arr n e) (he : TT e = some ie)
    (hx : ev σ x = some (.ptr k ver off)) (hy : ev σ y = some (.v (.int kk j))) (h0 : 0 ≤ j) (hj : j < n) (h2 : fin o σ (.ptr k ver (off + j.toNat * ie.size)) σ.L K) (hn : Nx P fx cx K next) : o.wp P a w next Q := by
  have h := ev_sound hs.s hx
  have ey := VX.v_inv (ev_sound hs.s hy)
  unfold VX at h
  obtain ⟨p, p1, g, d, p2, ex⟩ := h
  refine pure_sound hs (y := .pointer (some ⟨g, d + off + j.toNat * ie.size, none⟩)) ?_ ?_ h2 hn
  · simp [execOp, ho, ex, ey, Instr.indexAt, asIntOf, run_underlying (arr_under (htt _ _ h1) hd), Instr.sureAddr, h0, hj, sizeOf_run (htt _ _ he), Addr.add_lit]
  · unfold VX
    exact ⟨p, p1, g, d, p2, by rw [Nat.add_assoc]⟩
theorem step_index_str {t : TypeId} {x y : Operand} {i : TI} {s : ByteArray} {kk : IntKind} {j : Int} (htt : TTok P TT) (ho : o.op = .index t x y) (hs : Sim P fx cx σ a w) (h1 : TT t = some i) (hd : i.desc = .str)
    (hx : ev σ x = some (.v (.string s))) (hy : ev σ y = some (.v (.int kk j))) (h0 : 0 ≤ j) (hj : j < s.size) (h2 : fin o σ (.v (.int .u8 (s.data.toList.getD j.toNat 0).toNat)) σ.L K) (hn : Nx P fx cx K next) : o.wp P a w next Q := by
  have ex := VX.v_inv (ev_sound hs.s hx)
  have ey := VX.v_inv (ev_sound hs.s hy)
  have hlt : j.toNat < s.size := by omega
  have e : s[j.toNat]? = some (s.data.toList.getD j.toNat 0) := by
    rw [getElem?_pos s j.toNat hlt]
    congr 1
    have : j.toNat < s.data.toList.length := by simpa using hlt
    rw [List.getD_eq_getElem?_getD, List.getElem?_eq_getElem this]
    rfl
  refine pure_sound hs (y := .int .u8 (s.data.toList.getD j.toNat 0).toNat) ?_ (by simp [VX]) h2 hn
  simp [execOp, ho, ex, ey, Instr.index, asIntOf, run_underlying (str_under (htt _ _ h1) hd), h0, e]
theorem step_index_arr {t e : TypeId} {x y : Operand} {i ie : TI} {n : Nat} {cs : List IV} {kk : IntKind} {j : Int} {v : IV} (htt : TTok P TT) (ho : o.op = .index t x y) (hs : Sim P fx cx σ a w) (h1 : TT t = some i) (hd : i.desc = .arr n e) (he : TT e = some ie)
    (hx : ev σ x = some (.agg cs)) (hy : ev σ y = some (.v (.int kk j))) (h0 : 0 ≤ j) (hj : j < n) (hv : partIV ie cs (j.toNat * ie.size) = some v) (h2 : fin o σ v σ.L K) (hn : Nx P fx cx K next) : o.wp P a w next Q := by
  have h := ev_sound hs.s hx
  have ey := VX.v_inv (ev_sound hs.s hy)
  unfold VX at h
  obtain ⟨arr, ex, c1, c2⟩ := h
  obtain ⟨u, r1, r2⟩ := run_part (htt _ _ he) hv c1 c2
  exact pure_sound hs (y := u) (by simp [execOp, ho, ex, ey, Instr.index, asIntOf, run_underlying (arr_under (htt _ _ h1) hd), h0, hj, sizeOf_run (htt _ _ he), r1]) r2 h2 hn
theorem step_extract {x : Operand} {j : Nat} {vs : List IV} {v : IV} (ho : o.op = .extract x j) (hs : Sim P fx cx σ a w) (hx : ev σ x = some (.tup vs)) (hv : vs[j]? = some v) (h2 : fin o σ v σ.L K) (hn : Nx P fx cx K next) : o.wp P a w next Q := by
  have h := ev_sound hs.s hx
  unfold VX at h
  obtain ⟨arr, e, c1⟩ := h
  obtain ⟨y, q1, q2⟩ := c1.get _ _ hv
  have q1' : arr[j]? = some y := by simpa using q1
  exact pure_sound hs (y := y) (by simp [execOp, ho, e, Instr.extract, q1']) q2 h2 hn
end
end Go.Lift
/- One operation: the machine does what the evaluator says (part 3). -/
namespace Go.Lift
open Go Go.RowKit

section
variable {P : Program} {TT : TTab} {fx : Fx} {cx : Cx} {σ : St} {a : Act} {w : World} {o : Oper} {K : St → Prop} {next : Act → World → Prop} {Q : Exit → Act → World → Prop}

theorem bnd_run {x : Option Operand} {dflt l : Nat} (hs : Tmps cx σ a w) (h : bnd σ x dflt = some l) (y : Nat) (code : BoundsCode) (hl : l ≤ y) :
    (match x.map a.eval with | some v => Instr.sliceBound v y code | none => (pure dflt : Sem Nat)).run P w = .ok l w := by
  cases x with
  | none => simp [bnd] at h; subst h; rfl
  | some x =>
    unfold bnd at h
    simp only at h
    split at h
    · rename_i k n hx
      split at h
      · rename_i hn
        cases h
        have e := VX.v_inv (ev_sound hs hx)
        simp only [Option.map_some, e, Instr.sliceBound, asIntOf, Sem.run_bind, Sem.run_pure, Result.andThen_ok]
        rw [if_pos ⟨hn, by omega⟩]
        rfl
      · cases h
    · cases h
theorem bounds_run {lo hi : Option Operand} {l h len cap : Nat} (hs : Tmps cx σ a w) (h1 : bnd σ lo 0 = some l) (h2 : bnd σ hi len = some h) (hl : l ≤ h) (hh : h ≤ cap) (isS : Bool) :
    (Instr.sliceBounds isS len cap (lo.map a.eval) (hi.map a.eval) none).run P w = .ok (l, h, cap) w := by
  have r2 := bnd_run (P := P) hs h2 cap (if isS then .sliceAcap else .sliceAlen) hh
  have r1 := bnd_run (P := P) hs h1 h .sliceB hl
  unfold Instr.sliceBounds
  cases hi <;> cases lo <;> simp_all

theorem step_slice_str {t : TypeId} {x : Operand} {lo hi : Option Operand} {i : TI} {s : ByteArray} {l h : Nat} (htt : TTok P TT) (ho : o.op = .slice t x lo hi none) (hs : Sim P fx cx σ a w) (h1 : TT t = some i) (hd : i.desc = .str)
    (hx : ev σ x = some (.v (.string s))) (b1 : bnd σ lo 0 = some l) (b2 : bnd σ hi s.size = some h) (hl : l ≤ h) (hh : h ≤ s.size) (h2 : fin o σ (.v (.string (s.extract l h))) σ.L K) (hn : Nx P fx cx K next) : o.wp P a w next Q := by
  have ex := VX.v_inv (ev_sound hs.s hx)
  have hu := str_under (htt _ _ h1) hd
  refine pure_sound hs (y := .string (s.extract l h)) ?_ (by simp [VX]) h2 hn
  have := bounds_run (P := P) hs.s b1 b2 hl hh false
  simp [execOp, ho, ex, Instr.sliceAt, Instr.slice, run_underlying hu, this]
theorem TRm.cut {R : Nat → Prop} {cs : List IV} {g d : Nat} (h : TRm R w cs g d) (o m : Nat) : TRm R w ((cs.drop o).take m) g (d + o) :=
  TRm.of_get fun i x hx => by
    rw [List.getElem?_take] at hx
    split at hx
    · rw [List.getElem?_drop] at hx
      obtain ⟨y, q⟩ := h.get _ _ hx
      exact ⟨y, by rw [Nat.add_assoc]; exact q⟩
    · cases hx
theorem step_slice_ro {t e : TypeId} {x : Operand} {lo hi : Option Operand} {i ie : TI} {n : Nat} {cs : List IV} {l h : Nat} (htt : TTok P TT) (ho : o.op = .slice t x lo hi none) (hs : Sim P fx cx σ a w) (h1 : TT t = some i) (hd : i.desc = .slice e) (he : TT e = some ie)
    (hx : ev σ x = some (.tr n cs)) (b1 : bnd σ lo 0 = some l) (b2 : bnd σ hi n = some h) (hl : l ≤ h) (hh : h ≤ n) (h2 : fin o σ (.tr (h - l) (cut cs l (h - l) ie.size)) σ.L K) (hn : Nx P fx cx K next) : o.wp P a w next Q := by
  have hv := ev_sound hs.s hx
  have hu := slice_under (htt _ _ h1) hd
  unfold VX TR at hv
  obtain ⟨b, c, ex, hnc, h3⟩ := hv
  have hb := bounds_run (P := P) hs.s b1 b2 hl (Nat.le_trans hh hnc) true
  refine pure_sound hs (y := .slice (if c = l then b else b.map (·.add (l * ie.size))) (h - l) (c - l)) ?_ ?_ h2 hn
  · simp [execOp, ho, ex, Instr.sliceAt, Instr.slice, run_underlying hu, hb, sizeOf_run (htt _ _ he)]
  · unfold VX TR
    refine ⟨_, _, rfl, by omega, ?_⟩
    by_cases hz : h - l = 0
    · left; simp [cut, hz]
    · rcases h3 with rfl | ⟨g, d, rfl, hR, hm⟩
      · left; simp [cut]
      · right
        rw [if_neg (by omega)]
        refine ⟨g, d + l * ie.size, by simp [Addr.add_lit], hR, ?_⟩
        unfold cut
        exact hm.cut _ _
theorem step_slice_row {t e : TypeId} {x : Operand} {lo hi : Option Operand} {i ie : TI} {k ver off n : Nat} {b : Blk} {l h : Nat} (htt : TTok P TT) (ho : o.op = .slice t x lo hi none) (hs : Sim P fx cx σ a w) (h1 : TT t = some i) (hd : i.desc = .slice e) (he : TT e = some ie)
    (hx : ev σ x = some (.sl k ver off n)) (hb : blkAt σ.L k ver = some b) (b1 : bnd σ lo 0 = some l) (b2 : bnd σ hi n = some h) (hl : l ≤ h) (hh : h ≤ n) (hbt : b.t = e) (hr : b.row = true) (h2 : fin o σ (.sl k ver (off + l) (h - l)) σ.L K) (hn : Nx P fx cx K next) : o.wp P a w next Q := by
  have hv := ev_sound hs.s hx
  have hu := slice_under (htt _ _ h1) hd
  unfold VX at hv
  obtain ⟨p, p1, p2⟩ := hv
  subst hbt
  obtain ⟨hsz, _⟩ := row_info hs.m hb hr (htt _ _ he) p1
  rcases p2 with ⟨v1, ⟨ad, ex⟩, rfl, rfl⟩ | ⟨g, m, cap, ad, v1, ex, v3, v4⟩
  · have hb := bounds_run (P := P) (cap := 0) hs.s b1 b2 hl hh true
    have : h = 0 := by omega
    subst this
    have : l = 0 := by omega
    subst this
    refine pure_sound hs (y := .slice ad 0 0) ?_ ?_ h2 hn
    · simp [execOp, ho, ex, Instr.sliceAt, Instr.slice, run_underlying hu, hb, sizeOf_run (htt _ _ he)]
    · unfold VX
      exact ⟨p, p1, .inl ⟨v1, ⟨ad, rfl⟩, rfl, rfl⟩⟩
  · have hb := bounds_run (P := P) (cap := cap - off) hs.s b1 b2 hl (by omega) true
    refine pure_sound hs (y := .slice (some (if cap - off = l then ad else ad.add (l * ie.size))) (h - l) (cap - off - l)) ?_ ?_ h2 hn
    · simp [execOp, ho, ex, Instr.sliceAt, Instr.slice, run_underlying hu, hb, sizeOf_run (htt _ _ he)]
      split <;> rfl
    · unfold VX
      refine ⟨p, p1, .inr ⟨g, m, cap, _, v1, by rw [Nat.sub_sub], by omega, fun hc => ?_⟩⟩
      by_cases hz : 0 < h - l
      · have had := v4 (.inl (by omega))
        subst had
        rw [if_neg (by omega), Addr.add_lit, hsz, ← Nat.add_mul]
      · have h0 : off + l = 0 := by omega
        have had := v4 (.inr (by omega))
        subst had
        have hl0 : l = 0 := by omega
        have ho0 : off = 0 := by omega
        subst hl0 ho0
        simp [Addr.add_lit]
theorem step_slice_emp {t e : TypeId} {x : Operand} {lo hi : Option Operand} {i : TI} {l h : Nat} (htt : TTok P TT) (ho : o.op = .slice t x lo hi none) (hs : Sim P fx cx σ a w) (h1 : TT t = some i) (hd : i.desc = .slice e) (hse : ∃ ie, TT e = some ie)
    (hx : ev σ x = some .emp) (b1 : bnd σ lo 0 = some l) (b2 : bnd σ hi 0 = some h) (hl : l = 0) (hh : h = 0) (h2 : fin o σ .emp σ.L K) (hn : Nx P fx cx K next) : o.wp P a w next Q := by
  have hv := ev_sound hs.s hx
  have hu := slice_under (htt _ _ h1) hd
  obtain ⟨ie, he⟩ := hse
  unfold VX at hv
  obtain ⟨b, ex⟩ := hv
  subst hl hh
  have hb := bounds_run (P := P) (cap := 0) hs.s b1 b2 (Nat.le_refl _) (Nat.le_refl _) true
  refine pure_sound hs (y := .slice b 0 0) ?_ (by unfold VX; exact ⟨b, rfl⟩) h2 hn
  simp [execOp, ho, ex, Instr.sliceAt, Instr.slice, run_underlying hu, hb, sizeOf_run (htt _ _ he)]

theorem evs_sound : ∀ {xs : List Operand} {vs : List IV}, Tmps cx σ a w → evs σ xs = some vs → VXl cx w vs (xs.map a.eval)
  | [], vs, hs, h => by simp [evs] at h; subst h; exact VXl.nil
  | x :: xs, vs, hs, h => by
    unfold evs at h
    split at h
    · rename_i y ys h1 h2
      cases h
      exact VXl.cons (ev_sound hs h1) (evs_sound hs h2)
    · cases h

theorem srcOf_sound (htt : TTok P TT) (hm : Mem P fx cx σ w) {u e : TypeId} {ie : TI} (he : TT e = some ie) {x : IV} {y : Value} (hx : VX cx w x y) {m : Nat} {cs : List IV} (h : srcOf σ.L TT u e ie.size x = some (m, cs)) :
    ∃ news, Src P w u y m ie.size news ∧ TRl cx.R w cs news := by
  unfold srcOf at h
  split at h
  · cases h
  · rename_i iu hu
    split at h
    · rename_i e' hd
      split at h
      · rename_i ee
        subst ee
        cases h
        unfold VX at hx
        obtain ⟨ad, rfl⟩ := hx
        exact ⟨[], src_slice (slice_under (htt _ _ hu) hd) (by simp) (by simp) (.inl rfl), by simp [TRl]⟩
      · cases h
    · rename_i e' n cs' hd
      split at h
      · rename_i ee
        obtain ⟨rfl, hl⟩ := ee
        cases h
        unfold VX TR at hx
        obtain ⟨ad, c, rfl, hc, h3⟩ := hx
        rcases h3 with rfl | ⟨g, d, rfl, hR, hmm⟩
        · exact ⟨[], src_slice (slice_under (htt _ _ hu) hd) (by simpa using hl) (by simp) (.inl rfl), by simp [TRl]⟩
        · -- the cells' values
          have : ∃ news : List Value, news.length = cs.length ∧ ∀ (i : Nat) (x : IV), cs[i]? = some x → ∃ y, news[i]? = some y ∧ w.cell? ⟨g, d + i, none⟩ = some y ∧ TR cx.R w x y ∧ y.oneCell' = true := by
            refine ⟨(List.range cs.length).map fun i => (w.cell? ⟨g, d + i, none⟩).getD undef, by simp, fun i x hi => ?_⟩
            obtain ⟨y, q1, q2, q3⟩ := hmm.get i x hi
            have hlt : i < cs.length := (List.getElem?_eq_some_iff.1 hi).1
            exact ⟨y, by simp [hlt, q1], q1, q2, q3⟩
          obtain ⟨news, n1, n2⟩ := this
          have n3 : ∀ (j : Nat) (v : Value), news[j]? = some v → w.cell? ⟨g, d + j, none⟩ = some v ∧ v.oneCell' = true := fun j v hj => by
            have hlt : j < cs.length := by rw [← n1]; exact (List.getElem?_eq_some_iff.1 hj).1
            obtain ⟨y, q1, q2, _, q4⟩ := n2 j _ (List.getElem?_eq_getElem hlt)
            rw [hj] at q1; cases q1; exact ⟨q2, q4⟩
          refine ⟨news, src_slice (slice_under (htt _ _ hu) hd) (by rw [n1]; exact hl) (fun z hz => ?_) (.inr ⟨g, d, rfl, fun j v hj => (n3 j v hj).1⟩), TRl.of_get n1 fun i x y hi hy => ?_⟩
          · obtain ⟨j, hj, hje⟩ := List.getElem_of_mem hz
            exact (n3 j z (by rw [List.getElem?_eq_getElem hj, hje])).2
          · obtain ⟨y', q1, _, q3, q4⟩ := n2 i x hi
            rw [hy] at q1; cases q1; exact ⟨q3, q4⟩
      · cases h
    · rename_i e' k ver off n hd
      split at h
      · rename_i ee
        subst ee
        split at h
        · rename_i b hb
          split at h
          · rename_i hc
            obtain ⟨hr, hbt, hle⟩ := hc
            cases h
            unfold VX at hx
            obtain ⟨p, p1, p2⟩ := hx
            subst hbt
            obtain ⟨hsz, hrow⟩ := row_info hm hb hr (htt _ _ he) p1
            have hlen := hrow.len
            rw [hsz] at hlen
            have hcl : (cut b.cs off m ie.size).length = m * ie.size := by
              simp only [cut, List.length_take, List.length_drop, hlen]
              rw [← Nat.sub_mul]
              have : m * ie.size ≤ (b.n - off) * ie.size := Nat.mul_le_mul_right _ (by omega)
              omega
            rcases p2 with ⟨v1, ⟨ad, rfl⟩, rfl, rfl⟩ | ⟨g, m0, cap, ad, v1, rfl, v3, v4⟩
            · have : cut b.cs 0 0 ie.size = [] := by simp [cut]
              rw [this]
              exact ⟨[], src_slice (slice_under (htt _ _ hu) hd) (by simp) (by simp) (.inl rfl), by simp [TRl]⟩
            · by_cases hm0 : m = 0
              · subst hm0
                have : cut b.cs off 0 ie.size = [] := by simp [cut]
                rw [this]
                exact ⟨[], src_slice (slice_under (htt _ _ hu) hd) (by simp) (by simp) (.inl rfl), by simp [TRl]⟩
              · have had := v4 (.inl (by omega))
                subst had
                rcases hrow.v with ⟨z1, _⟩ | ⟨g', cap', cur, z1, z2, z3, z4, z5, z6, _⟩
                · rw [v1] at z1; cases z1
                · rw [v1] at z1; cases z1
                  have hcell : ∀ j', w.cell? ⟨g, j', none⟩ = cur[j']? := fun j' => cell_of_row w g j' cur b.t (0, 0) z2
                  let news := (cur.toList.drop (off * ie.size)).take (m * ie.size)
                  have hbig : (off + m) * ie.size ≤ b.n * ie.size := Nat.mul_le_mul_right _ hle
                  have hbig2 : b.n * ie.size ≤ cap * ie.size := Nat.mul_le_mul_right _ z3
                  rw [Nat.add_mul] at hbig
                  have hnl : news.length = m * ie.size := by simp [news]; rw [z5, hsz]; omega
                  have htr : TRl cx.R w (cut b.cs off m ie.size) news := by
                    refine TRl.of_get (by rw [hnl, hcl]) fun i x y hi hy => ?_
                    simp only [cut, news] at hi hy
                    rw [List.getElem?_take] at hi hy
                    split at hi
                    · rename_i hilt
                      rw [if_pos hilt, List.getElem?_drop] at hy
                      rw [List.getElem?_drop] at hi
                      obtain ⟨y', q1, q2⟩ := z6.get _ _ hi
                      rw [List.getElem?_take, if_pos (by rw [hsz]; omega), hy] at q1
                      cases q1; exact q2
                    · cases hi
                  refine ⟨news, src_slice (slice_under (htt _ _ hu) hd) hnl (fun z hz => ?_) (.inr ⟨g, off * ie.size, by rw [hsz], fun j v hj => ?_⟩), htr⟩
                  · obtain ⟨j, hj, hje⟩ := List.getElem_of_mem hz
                    have hj' : j < (cut b.cs off m ie.size).length := by rw [hcl, ← hnl]; exact hj
                    obtain ⟨y', q1, _, q3⟩ := htr.get j _ (List.getElem?_eq_getElem hj')
                    rw [List.getElem?_eq_getElem hj, hje] at q1; cases q1; exact q3
                  · rw [hcell]
                    simp only [news] at hj
                    rw [List.getElem?_take] at hj
                    split at hj
                    · rw [List.getElem?_drop] at hj; simpa using hj
                    · cases hj
          · cases h
        · cases h
      · cases h
    · rename_i s hd
      split at h
      · rename_i h1
        cases h
        have := VX.v_inv hx
        subst this
        rw [h1]
        exact ⟨_, src_string (str_under (htt _ _ hu) hd) s, TRl_str _ _⟩
      · cases h
    · cases h
end
end Go.Lift
/- One operation: the machine does what the evaluator says (part 4): builtins, literals, conversions. -/
namespace Go.Lift
open Go Go.RowKit

section
variable {P : Program} {TT : TTab} {fx : Fx} {cx : Cx} {σ : St} {a : Act} {w : World} {o : Oper} {K : St → Prop} {next : Act → World → Prop} {Q : Exit → Act → World → Prop}

theorem exec_builtin {b : Builtin} {c : Call} (ho : o.op = .call c) (hb : c.callee = .builtin b) :
    ∃ cs, execOp a.eval o = (builtin b c.argTypes o.type cs (c.args.map a.eval)) := by
  refine ⟨c.args.map fun | .const _ => true | _ => false, ?_⟩
  simp only [execOp, ho, resolve, hb]
  rfl
theorem arr_of_list {α : Type} {xs : Array α} {l : List α} (h : xs.toList = l) : xs = l.toArray := by rw [← h]

theorem append_step {c : Call} (htt : TTok P TT) (ho : o.op = .call c) (hb : c.callee = .builtin .append) (hs : Sim P fx cx σ a w) {x y : IV} (hx : evs σ c.args.toList = some [x, y]) {t u : TypeId} (ht : c.argTypes.toList = [t, u])
    (hK : appendTo σ TT o t u x y K) (hn : Nx P fx cx K next) : o.wp P a w next Q := by
  have hargs := evs_sound hs.s hx
  unfold VXl at hargs
  obtain ⟨yx, ys', e1, hx1, h2⟩ := hargs
  unfold VXl at h2
  obtain ⟨yy, ys'', rfl, hy1, h3⟩ := h2
  unfold VXl at h3
  subst h3
  have hmap : c.args.map a.eval = #[yx, yy] := by
    apply Array.ext'
    rw [Array.toList_map, e1]
  have htys : c.argTypes = #[t, u] := arr_of_list ht
  obtain ⟨cs, hex⟩ := exec_builtin (a := a) ho hb
  have hexec : ∀ {y' w'}, (Builtin.append_ #[t, u] o.type #[yx, yy]).run P w = .ok y' w' → (execOp a.eval o).run P w = .ok (.value y') w' := fun h => by
    rw [hex, hmap, htys]; simp [builtin, h]
  unfold appendTo at hK
  obtain ⟨it, t1, hK⟩ := ob_elim hK
  split at hK
  · rename_i e hd
    obtain ⟨ie, t2, hK⟩ := ob_elim hK
    obtain ⟨⟨m, xs⟩, t3, hK⟩ := ob_elim hK
    have hu := slice_under (htt _ _ t1) hd
    obtain ⟨news, s1, s2⟩ := srcOf_sound htt hs.m t2 hy1 t3
    dsimp only at hK
    split at hK
    · -- a nil slice
      obtain ⟨⟨b1, b2⟩, b3, hK⟩ := hK
      unfold VX at hx1
      obtain ⟨ad, rfl⟩ := hx1
      obtain ⟨cx1, k1, k0, k2, k3⟩ := push_nil hs.m (htt _ _ t2) (htt _ _ t2).pos
      have hb : blkAt (σ.L ++ [some (nilRow e ie.flat)]) σ.L.length 0 = some (nilRow e ie.flat) := by simp [blkAt, nilRow]
      have hx' : VX cx1 w (.sl σ.L.length 0 0 0) (.slice ad 0 0) := by
        unfold VX at k3 ⊢
        obtain ⟨p, p1, p2⟩ := k3
        refine ⟨p, p1, ?_⟩
        rcases p2 with ⟨q1, _, q2⟩ | ⟨g', m', cap, ad', _, q2, _⟩
        · exact .inl ⟨q1, ⟨ad, rfl⟩, q2⟩
        · cases q2
      obtain ⟨y', w', cx2, r1, r2, r0, r3, r4, r5⟩ := append_row (ty := o.type) (σ := { σ with L := σ.L ++ [some (nilRow e ie.flat)] }) k2 hu (htt _ _ t2) (htt _ _ t2).pos hb rfl rfl rfl (Nat.zero_le _) hx' s1
        (by rw [k0]; exact s2) (fun hf => all_isV (b3 hf)) (by omega) (by simpa using b2)
      refine fin_sound hs.s (hexec r1) (Cx.le_trans k1 r2) ?_ (by rw [k0] at r4; exact r4) ?_ hK hn
      · simpa [nilRow] using r3
      · simpa using r5
    · rename_i k ver off n
      obtain ⟨b, hb, hK⟩ := ob_elim hK
      obtain ⟨⟨c1, c2, c3, rfl, c5⟩, ⟨d1, d2⟩, d3, hK⟩ := hK
      obtain ⟨y', w', cx2, r1, r2, r0, r3, r4, r5⟩ := append_row (ty := o.type) hs.m hu (htt _ _ t2) (htt _ _ t2).pos hb c1 c2 c3 c5 hx1 s1 s2 (fun hf => all_isV (d3 hf)) d1 d2
      exact fin_sound hs.s (hexec r1) r2 r3 r4 r5 hK hn
    · exact hK.elim
  · exact hK.elim

theorem len_str {t : TypeId} {i : TI} (htt : TTok P TT) (ht : TT t = some i) (hd : i.desc.isStr = true) {c : Call} (ho : o.op = .call c) (hb : c.callee = .builtin .len) (hts : c.argTypes[0]? = some t) (hs : Sim P fx cx σ a w) {s : ByteArray} (hx : evs σ c.args.toList = some [.v (.string s)])
    (hK : fin o σ (.v (.int .i64 s.size)) σ.L K) (hn : Nx P fx cx K next) : o.wp P a w next Q := by
  have hargs := evs_sound hs.s hx
  unfold VXl at hargs
  obtain ⟨yx, ys', e1, hx1, h2⟩ := hargs
  unfold VXl at h2; subst h2
  have e := VX.v_inv hx1
  have hmap : c.args.map a.eval = #[.string s] := by apply Array.ext'; rw [Array.toList_map, e1, e]
  have hu : P.underlying t = some .string := by
    cases h : i.desc <;> rw [h] at hd <;> simp [TD.isStr] at hd
    exact str_under (htt _ _ ht) h
  obtain ⟨cs, hex⟩ := exec_builtin (a := a) ho hb
  exact pure_sound hs (y := .int .i64 s.size) (by rw [hex, hmap]; simp [builtin, Builtin.len_, hts, run_underlying hu, goInt]) (by simp [VX]) hK hn
theorem len_slice {t : TypeId} {i : TI} (htt : TTok P TT) (ht : TT t = some i) (hd : i.desc.isSlice = true) {c : Call} (ho : o.op = .call c) (hb : c.callee = .builtin .len) (hts : c.argTypes[0]? = some t) (hs : Sim P fx cx σ a w) {x : IV} {n : Nat} (hx : evs σ c.args.toList = some [x])
    (hxn : ∀ y, VX cx w x y → ∃ ad c, y = .slice ad n c) (hK : fin o σ (.v (.int .i64 n)) σ.L K) (hn : Nx P fx cx K next) : o.wp P a w next Q := by
  have hargs := evs_sound hs.s hx
  unfold VXl at hargs
  obtain ⟨yx, ys', e1, hx1, h2⟩ := hargs
  unfold VXl at h2; subst h2
  obtain ⟨ad, cc, e⟩ := hxn _ hx1
  have hmap : c.args.map a.eval = #[.slice ad n cc] := by apply Array.ext'; rw [Array.toList_map, e1, e]
  obtain ⟨e', hu⟩ : ∃ e, P.underlying t = some (.slice e) := by
    cases h : i.desc <;> rw [h] at hd <;> simp [TD.isSlice] at hd
    exact ⟨_, slice_under (htt _ _ ht) h⟩
  obtain ⟨cs, hex⟩ := exec_builtin (a := a) ho hb
  exact pure_sound hs (y := .int .i64 n) (by rw [hex, hmap]; simp [builtin, Builtin.len_, hts, run_underlying hu, goInt]) (by simp [VX]) hK hn
theorem two_args {c : Call} (hs : Sim P fx cx σ a w) {p q : Value} (hx : evs σ c.args.toList = some [.v p, .v q]) : c.args.map a.eval = #[p, q] := by
  have hargs := evs_sound hs.s hx
  unfold VXl at hargs
  obtain ⟨yx, ys', e1, hx1, h2⟩ := hargs
  unfold VXl at h2
  obtain ⟨yy, ys'', rfl, hy1, h3⟩ := h2
  unfold VXl at h3
  subst h3
  have e := VX.v_inv hx1
  have e' := VX.v_inv hy1
  apply Array.ext'; rw [Array.toList_map, e1, e, e']

theorem one_arg {c : Call} (hs : Sim P fx cx σ a w) {p : Value} (hx : evs σ c.args.toList = some [.v p]) : c.args.map a.eval = #[p] := by
  have hargs := evs_sound hs.s hx
  unfold VXl at hargs
  obtain ⟨yx, ys', e1, hx1, h2⟩ := hargs
  unfold VXl at h2
  subst h2
  have e := VX.v_inv hx1
  apply Array.ext'; rw [Array.toList_map, e1, e]
theorem run_real (ts : Array TypeId) (t : TypeId) (k : FloatKind) (x y : Nat) : (Builtin.real_ ts t #[.complex k x y]).run P w = .ok (.float k x) w := rfl
theorem run_imag (ts : Array TypeId) (t : TypeId) (k : FloatKind) (x y : Nat) : (Builtin.imag_ ts t #[.complex k x y]).run P w = .ok (.float k y) w := rfl
theorem run_complex (ts : Array TypeId) (t : TypeId) (k : FloatKind) (x y : Nat) : (Builtin.complex_ ts t #[.float k x, .float k y]).run P w = .ok (.complex k x y) w := by
  have : Builtin.complex_ ts t #[.float k x, .float k y] = if k = k then (pure (.complex k x y) : Sem Value) else stuck "complex: parts of different kinds" := rfl
  rw [this, if_pos rfl]; rfl
theorem run_max_float {a b r : Nat} (h : fmax a b = some r) {ts : Array TypeId} {t : TypeId} : (Builtin.max_ ts t #[.float .f64 a, .float .f64 b]).run P w = .ok (.float .f64 r) w := by
  unfold fmax at h
  cases ho : FloatKind.f64.format.order a b with
  | none => rw [ho] at h; cases h
  | some c => rw [ho] at h; cases c <;> simp at h <;> subst h <;> simp [Builtin.max_, Builtin.max2, ho]
theorem run_min_float {a b r : Nat} (h : fmin a b = some r) {ts : Array TypeId} {t : TypeId} : (Builtin.min_ ts t #[.float .f64 a, .float .f64 b]).run P w = .ok (.float .f64 r) w := by
  unfold fmin at h
  cases ho : FloatKind.f64.format.order a b with
  | none => rw [ho] at h; cases h
  | some c => rw [ho] at h; cases c <;> simp at h <;> subst h <;> simp [Builtin.min_, Builtin.min2, ho]
theorem builtin_step {c : Call} {b : Builtin} (htt : TTok P TT) (ho : o.op = .call c) (hb : c.callee = .builtin b) (hs : Sim P fx cx σ a w) {xs : List IV} (hx : evs σ c.args.toList = some xs) (hK : stepBuiltin TT o b c.argTypes xs σ K) (hn : Nx P fx cx K next) : o.wp P a w next Q := by
  unfold stepBuiltin at hK
  split at hK
  · obtain ⟨t, t1, hK⟩ := ob_elim hK
    obtain ⟨i, t2, hd, hK⟩ := ob_elim hK
    exact len_str htt t2 hd ho hb t1 hs hx hK hn
  · obtain ⟨t, t1, hK⟩ := ob_elim hK
    obtain ⟨i, t2, hd, hK⟩ := ob_elim hK
    exact len_slice (n := 0) htt t2 hd ho hb t1 hs hx (fun y hy => by unfold VX at hy; obtain ⟨ad, rfl⟩ := hy; exact ⟨ad, 0, rfl⟩) hK hn
  · obtain ⟨t, t1, hK⟩ := ob_elim hK
    obtain ⟨i, t2, hd, hK⟩ := ob_elim hK
    exact len_slice htt t2 hd ho hb t1 hs hx (fun y hy => by unfold VX TR at hy; obtain ⟨ad, c, rfl, _⟩ := hy; exact ⟨ad, c, rfl⟩) hK hn
  · obtain ⟨t, t1, hK⟩ := ob_elim hK
    obtain ⟨i, t2, hd, hK⟩ := ob_elim hK
    refine len_slice htt t2 hd ho hb t1 hs hx (fun y hy => ?_) hK hn
    unfold VX at hy
    obtain ⟨p, _, hy⟩ := hy
    rcases hy with ⟨_, ⟨ad, rfl⟩, _, rfl⟩ | ⟨g, m, cap, ad, _, rfl, _⟩
    · exact ⟨ad, 0, rfl⟩
    · exact ⟨_, _, rfl⟩
  · split at hK
    · rename_i t u ht
      exact append_step htt ho hb hs hx ht hK hn
    · exact hK.elim
  · obtain ⟨cs, hex⟩ := exec_builtin (a := a) ho hb
    exact pure_sound hs (by rw [hex, one_arg hs hx]; simp only [builtin, Sem.run_bind, run_real, Result.andThen_ok, Sem.run_pure]; rfl) (by simp [VX]) hK hn
  · obtain ⟨cs, hex⟩ := exec_builtin (a := a) ho hb
    exact pure_sound hs (by rw [hex, one_arg hs hx]; simp only [builtin, Sem.run_bind, run_imag, Result.andThen_ok, Sem.run_pure]; rfl) (by simp [VX]) hK hn
  · obtain ⟨cs, hex⟩ := exec_builtin (a := a) ho hb
    exact pure_sound hs (by rw [hex, two_args hs hx]; simp only [builtin, Sem.run_bind, run_complex, Result.andThen_ok, Sem.run_pure]; rfl) (by simp [VX]) hK hn
  · obtain ⟨r, t1, hK⟩ := ob_elim hK
    obtain ⟨cs, hex⟩ := exec_builtin (a := a) ho hb
    exact pure_sound hs (by rw [hex, two_args hs hx]; simp only [builtin, Sem.run_bind, run_max_float t1, Result.andThen_ok, Sem.run_pure]; rfl) (by simp [VX]) hK hn
  · obtain ⟨r, t1, hK⟩ := ob_elim hK
    obtain ⟨cs, hex⟩ := exec_builtin (a := a) ho hb
    exact pure_sound hs (by rw [hex, two_args hs hx]; simp only [builtin, Sem.run_bind, run_min_float t1, Result.andThen_ok, Sem.run_pure]; rfl) (by simp [VX]) hK hn
  · rename_i k p k' q
    obtain ⟨cs, hex⟩ := exec_builtin (a := a) ho hb
    exact pure_sound hs (y := .int k (if q > p then q else p)) (by rw [hex, two_args hs hx]; simp [builtin, run_max_int2]) (by simp [VX]) hK hn
  · rename_i k p k' q
    obtain ⟨cs, hex⟩ := exec_builtin (a := a) ho hb
    exact pure_sound hs (y := .int k (if q < p then q else p)) (by rw [hex, two_args hs hx]; simp [builtin, run_min_int2]) (by simp [VX]) hK hn
  · exact hK.elim

theorem VXl.take {xs : List IV} {ys : List Value} (h : VXl cx w xs ys) (n : Nat) : VXl cx w (xs.take n) (ys.take n) := by
  refine VXl.of_get (by simp [h.length]) fun i x y hx hy => ?_
  rw [List.getElem?_take] at hx hy
  split at hx
  · rw [if_pos ‹_›] at hy
    obtain ⟨y', h1, h2⟩ := h.get i x hx
    rw [hy] at h1; cases h1; exact h2
  · cases hx

def setV (cells : List Value) (off : Nat) : List Value → List Value
  | [] => cells
  | u :: us => setV (cells.set off u) (off + 1) us
theorem fold_setV (us : List Value) (k off : Nat) (cells : Array Value) : ((us.zipIdx k).foldl (fun cs (c, j) => cs.setIfInBounds (off + j) c) cells).toList = setV cells.toList (off + k) us := by
  induction us generalizing k cells with
  | nil => rfl
  | cons u us ih =>
    rw [List.zipIdx_cons, List.foldl_cons]
    have := ih (k + 1) (cells.setIfInBounds (off + k) u)
    rw [this]
    simp [setV, Nat.add_assoc]
theorem fold_arr (u : Array Value) (off : Nat) (cells : Array Value) : (u.zipIdx.foldl (fun cs (c, j) => cs.setIfInBounds (off + j) c) cells).toList = setV cells.toList off u.toList := by
  rw [← Array.foldl_toList, Array.toList_zipIdx]
  have := fold_setV u.toList 0 off cells
  simpa using this
theorem VXl.set {xs : List IV} {ys : List Value} (h : VXl cx w xs ys) (n : Nat) {x : IV} {y : Value} (hx : VX cx w x y) : VXl cx w (xs.set n x) (ys.set n y) := by
  refine VXl.of_get (by simp [h.length]) fun i x' y' hx' hy' => ?_
  rw [List.getElem?_set] at hx' hy'
  rw [h.length] at hy'
  split at hx'
  · rw [if_pos ‹_›] at hy'
    split at hx'
    · rw [if_pos ‹_›] at hy'; cases hx'; cases hy'; exact hx
    · simp at hx'
  · rw [if_neg ‹_›] at hy'
    obtain ⟨y1, h1, h2⟩ := h.get i x' hx'
    rw [hy'] at h1; cases h1; exact h2
theorem VXl.putAt : ∀ {us : List Value} {ws : List IV} {xs : List IV} {ys : List Value} {off : Nat}, VXl cx w xs ys → VXl cx w ws us → VXl cx w (Lift.putAt xs off ws) (setV ys off us)
  | us, [], xs, ys, off, h, hw => by unfold VXl at hw; subst hw; exact h
  | us, z :: ws, xs, ys, off, h, hw => by
    unfold VXl at hw
    obtain ⟨u, us', rfl, h1, h2⟩ := hw
    unfold Lift.putAt setV
    exact VXl.putAt (h.set off h1) h2
theorem setV_one : ∀ {us : List Value} {ys : List Value} {off : Nat}, (∀ z ∈ ys, z.oneCell' = true) → (∀ z ∈ us, z.oneCell' = true) → ∀ z ∈ setV ys off us, z.oneCell' = true
  | [], ys, off, h, _ => h
  | u :: us, ys, off, h, hu => by
    unfold setV
    refine setV_one (fun z hz => ?_) (fun z hz => hu z (by simp [hz]))
    rcases List.mem_or_eq_of_mem_set hz with h' | rfl
    · exact h z h'
    · exact hu z (by simp)
theorem setV_eq (cells : List Value) (off : Nat) (us : List Value) (h : off + us.length ≤ cells.length) : setV cells off us = cells.take off ++ us ++ cells.drop (off + us.length) := by
  induction us generalizing cells off with
  | nil => simp [setV]
  | cons u us ih =>
    simp only [List.length_cons] at h
    unfold setV
    rw [ih _ _ (by simp; omega)]
    have h1 : (cells.set off u).take (off + 1) = cells.take off ++ [u] := by
      rw [List.take_add_one, List.take_set_of_le (Nat.le_refl _)]
      simp [List.getElem?_set]; omega
    have h2 : (cells.set off u).drop (off + 1 + us.length) = cells.drop (off + (us.length + 1)) := by
      rw [List.drop_set_of_lt (by omega)]; congr 1; omega
    rw [h1, h2]; simp

theorem fill_lit {size : Nat} : ∀ {ps : List (Nat × Operand)} {j : Nat} {cs : List IV} {cells : Array Value}, Tmps cx σ a w → litCells size j ps σ = some cs → (j + ps.length) * size ≤ cells.size →
    ∃ arr us, Instr.fill (fun i => some (i * size, size)) cells (ps.map fun p => (p.1, a.eval p.2)) = some arr ∧ arr.toList = cells.toList.take (j * size) ++ us ++ cells.toList.drop ((j + ps.length) * size) ∧ VXl cx w cs us ∧ (∀ z ∈ us, z.oneCell' = true) ∧ us.length = ps.length * size
  | [], j, cs, cells, hs, h, _ => by
    simp [litCells] at h; subst h
    exact ⟨cells, [], rfl, by simp, VXl.nil, by simp, by simp⟩
  | (i, x) :: ps, j, cs, cells, hs, h, hl => by
    unfold litCells at h
    split at h
    · rename_i v r h1 h2
      split at h
      · rename_i hc
        obtain ⟨rfl, hsz, hcell⟩ := hc
        cases h
        obtain ⟨e1, e2⟩ := VXl.one_of (ev_sound hs h1) hcell
        have hus : (a.eval x).cells.toList.length = size := by rw [e1.length, hsz]
        have husz : (a.eval x).cells.size = size := by simpa using hus
        simp only [List.length_cons] at hl
        have hl2 : (i + (ps.length + 1)) * size = i * size + (ps.length * size + size) := by rw [Nat.add_mul, Nat.add_mul, Nat.one_mul]
        have hfit : i * size + size ≤ cells.size := by omega
        let cells' := (a.eval x).cells.zipIdx.foldl (fun cs (c, j) => cs.setIfInBounds (i * size + j) c) cells
        have hc' : cells'.toList = cells.toList.take (i * size) ++ (a.eval x).cells.toList ++ cells.toList.drop (i * size + size) := by
          simp only [cells']
          rw [fold_arr, setV_eq _ _ _ (by rw [hus]; simpa using hfit), hus]
        have hs' : cells'.size = cells.size := by
          have := congrArg List.length hc'
          simp at this
          rw [husz] at this
          omega
        have hge : (i + 1 + ps.length) * size ≤ cells'.size := by rw [hs', show i + 1 + ps.length = i + (ps.length + 1) by omega]; exact hl
        obtain ⟨arr, us, u1, u2, u3, u4, u5⟩ := fill_lit (cells := cells') hs h2 hge
        refine ⟨arr, (a.eval x).cells.toList ++ us, ?_, ?_, e1.append u3, ?_, by simp [hus, u5, Nat.add_mul]; omega⟩
        · simp only [List.map_cons, Instr.fill]
          rw [if_neg (by simp [husz]; omega)]
          exact u1
        · rw [u2, hc']
          have t1 : ((cells.toList.take (i * size) ++ (a.eval x).cells.toList ++ cells.toList.drop (i * size + size))).take ((i + 1) * size) = cells.toList.take (i * size) ++ (a.eval x).cells.toList := by
            have : (i + 1) * size = (cells.toList.take (i * size) ++ (a.eval x).cells.toList).length := by simp [husz, Nat.add_mul]; omega
            rw [this]; exact List.take_left
          have t2 : ((cells.toList.take (i * size) ++ (a.eval x).cells.toList ++ cells.toList.drop (i * size + size))).drop ((i + 1 + ps.length) * size) = cells.toList.drop ((i + (ps.length + 1)) * size) := by
            have hlen : (cells.toList.take (i * size) ++ (a.eval x).cells.toList).length = i * size + size := by simp [husz]; omega
            have hbig : (i + 1 + ps.length) * size = i * size + size + ps.length * size := by rw [show i + 1 + ps.length = i + (ps.length + 1) by omega, hl2]; omega
            rw [List.drop_append, hlen, List.drop_eq_nil_of_le (by rw [hlen, hbig]; omega), List.nil_append, List.drop_drop]
            congr 1
            rw [hbig, hl2]; omega
          rw [t1, t2]; simp
        · intro z hz
          rw [List.mem_append] at hz
          exact hz.elim (e2 z) (u4 z)
      · cases h
    · cases h
end
end Go.Lift
/- One operation: the machine does what the evaluator says (part 5): literals, conversions; all operations. -/
namespace Go.Lift
open Go Go.RowKit

section
variable {P : Program} {TT : TTab} {fx : Fx} {cx : Cx} {σ : St} {a : Act} {w : World} {o : Oper} {K : St → Prop} {next : Act → World → Prop} {Q : Exit → Act → World → Prop}

theorem step_buildSlice {t e : TypeId} {len : Nat} {ps : Array (Nat × Operand)} {i ie : TI} {cs : List IV} (htt : TTok P TT) (ho : o.op = .buildSlice t len ps) (hs : Sim P fx cx σ a w) (h1 : TT t = some i) (hd : i.desc = .slice e) (he : TT e = some ie)
    (hc : litCells ie.size 0 ps.toList σ = some cs) (hl1 : len ≤ 1000) (hl2 : ie.size ≤ 1000) (hps : ps.size = len) (htr : cs.all isTree = true) (hfl : ie.flat = true → cs.all isV = true)
    (h2 : fin o σ (.sl σ.L.length 0 0 len) (σ.L ++ [some ⟨true, e, len, ie.flat, cs, 0, false⟩]) K) (hn : Nx P fx cx K next) : o.wp P a w next Q := by
  have hu := slice_under (htt _ _ h1) hd
  have hie := htt _ _ he
  obtain ⟨j, hj, hj2, hj3, z, hz1, hz2⟩ := hie.info
  have hzl : z.cells.size = ie.size := by have := hz2.length; rw [hie.zlen] at this; simpa using this
  have hpos := hie.pos
  let init : Array Value := (Array.range (len * ie.size)).map (z.cells[· % z.cells.size]!)
  obtain ⟨arr, us, u1, u2, u3, u4, u5⟩ := fill_lit (a := a) (cells := init) hs.s hc (by simp [init, hps])
  have hus : us.length = len * ie.size := by rw [u5]; simp [hps]
  have harr : arr.toList = us := by
    rw [u2]
    have e1 : (0 + ps.toList.length) * ie.size = init.toList.length := by simp [init, hps]
    rw [e1]; simp
  have hrun : (Instr.buildSlice t len (ps.map fun (i, x) => (i, a.eval x))).run P w = .ok (.slice (some ⟨w.heap.size, 0, none⟩) len len) (w.alloc (.cells arr e)) := by
    have hlim : len * ie.size ≤ 16777216 := by
      have := Nat.mul_le_mul hl1 hl2
      omega
    have hmap : (ps.map fun (i, x) => (i, a.eval x)).toList = ps.toList.map fun p => (p.1, a.eval p.2) := by
      rw [Array.toList_map]
    unfold Instr.buildSlice
    simp only [Sem.run_bind, run_underlying hu, Result.andThen_ok, sizeOf_run hie]
    rw [if_neg (by simp; omega)]
    by_cases hz : len * ie.size = 0
    · simp only [hz, if_true, Sem.run_pure, Result.andThen_ok, Sem.run_bind]
      have : init = (Array.range 0).map ((#[] : Array Value)[· % (#[] : Array Value).size]!) := by simp [init, hz]
      rw [hmap, ← this, u1]
      simp [newRow]
    · simp only [hz, if_false, Sem.run_bind, run_zeroValue hj hz1, Result.andThen_ok, Sem.run_pure]
      rw [hmap]
      show ((match Instr.fill (fun i => some (i * ie.size, ie.size)) init (ps.toList.map fun p => (p.1, a.eval p.2)) with | some cells => _ | _ => _) : Sem Value).run P w = _
      rw [u1]
      simp [newRow]
  have hx : TRl cx.R w cs (arr.toList.take (len * ie.size)) := by
    rw [harr, List.take_of_length_le (by omega)]
    exact TRl_of_tree u3 htr
  obtain ⟨cx', k1, k0, k2, k3, k4⟩ := push_row (n := len) (cap := len) hs.m (Fr.alloc_nil w (.cells arr e)) hie hpos (heap_alloc_at w _) (Nat.le_refl _) (by simp only [maxLen]; omega)
    (by have := congrArg List.length harr; simp at this; omega) hx (fun hf => all_isV (hfl hf))
  exact fin_sound hs.s (by simp [execOp, ho, hrun]) k1 k2 k3 k4 h2 hn

theorem ofZero_sound : ∀ {zs : List ZC} {ys : List Value}, zOk zs ys → VXl cx w (zs.map ZC.iv) ys ∧ ∀ z ∈ ys, z.oneCell' = true
  | [], ys, h => by simp [zOk] at h; subst h; exact ⟨VXl.nil, by simp⟩
  | z :: zs, ys, h => by
    unfold zOk at h
    obtain ⟨y, ys', rfl, h1, h2⟩ := h
    obtain ⟨g1, g2⟩ := ofZero_sound h2
    cases z with
    | v x => obtain ⟨rfl, h1⟩ := h1; exact ⟨VXl.cons (by simp [VX, ZC.iv]) g1, by simp; exact ⟨h1, g2⟩⟩
    | row e => subst h1; exact ⟨VXl.cons (by simp [VX, ZC.iv]) g1, by simp; exact ⟨rfl, g2⟩⟩
theorem fill_struct {gs : Array Field} {places : Array (Nat × Nat)} {fs : List (Nat × TypeId)} (hfs : gs.toList.map (fun f => (f.offset, f.type)) = fs) (htt : TTok P TT)
    (hp : ∀ (i : Nat) (g : Field) (it : TI), gs[i]? = some g → TT g.type = some it → places[i]? = some (g.offset, it.size)) :
    ∀ {ps : List (Nat × Operand)} {vs cs0 cs : List IV} {cells : Array Value}, Tmps cx σ a w → evs σ (ps.map (·.2)) = some vs → fillIV TT fs cs0 ((ps.map (·.1)).zip vs) = some cs → VXl cx w cs0 cells.toList → (∀ z ∈ cells.toList, z.oneCell' = true) →
    ∃ arr, Instr.fill (places[·]?) cells (ps.map fun p => (p.1, a.eval p.2)) = some arr ∧ VXl cx w cs arr.toList ∧ ∀ z ∈ arr.toList, z.oneCell' = true
  | [], vs, cs0, cs, cells, hs, he, h, hc, h1 => by
    simp [evs] at he; subst he
    simp [fillIV] at h; subst h
    exact ⟨cells, rfl, hc, h1⟩
  | (i, x) :: ps, vs, cs0, cs, cells, hs, he, h, hc, h1 => by
    simp only [List.map_cons, evs] at he
    split at he
    · rename_i v vs' e1 e2
      cases he
      simp only [List.map_cons, List.zip_cons_cons, fillIV] at h
      split at h
      · rename_i off t hf
        split at h
        · rename_i it ht
          split at h
          · rename_i hcond
            obtain ⟨c1, c2, c3⟩ := hcond
            rw [← hfs, List.getElem?_map, Option.map_eq_some_iff] at hf
            obtain ⟨g, g1, g2⟩ := hf
            cases g2
            have hpl := hp i g it (by simpa using g1) ht
            obtain ⟨v1, v2⟩ := VXl.one_of (ev_sound hs e1) c3
            have hus : (a.eval x).cells.toList.length = it.size := by rw [v1.length, c1]
            have husz : (a.eval x).cells.size = it.size := by simpa using hus
            have hcl : cells.size = cs0.length := by have := hc.length; simpa using this
            let cells' := (a.eval x).cells.zipIdx.foldl (fun cs (c, j) => cs.setIfInBounds (g.offset + j) c) cells
            have hc' : cells'.toList = setV cells.toList g.offset (a.eval x).cells.toList := fold_arr _ _ _
            obtain ⟨arr, r1, r2⟩ := fill_struct hfs htt hp (cells := cells') hs e2 h (by rw [hc']; exact hc.putAt v1) (by rw [hc']; exact setV_one h1 v2)
            refine ⟨arr, ?_, r2⟩
            simp only [List.map_cons, Instr.fill, hpl]
            rw [if_neg (by simp [husz]; omega)]
            exact r1
          · cases h
        · cases h
      · cases h
    · cases he
theorem mapM_places {gs : List Field} (htt : TTok P TT) (hall : ∀ g ∈ gs, ∃ it, TT g.type = some it) : ∃ ps : List (Nat × Nat), (gs.mapM (fun f => do pure (f.offset, ← sizeOf f.type) : Field → Sem (Nat × Nat))).run P w = .ok ps w ∧ ∀ (i : Nat) (g : Field) (it : TI), gs[i]? = some g → TT g.type = some it → ps[i]? = some (g.offset, it.size) := by
  induction gs with
  | nil => exact ⟨[], by simp, by simp⟩
  | cons g gs ih =>
    obtain ⟨it, hit⟩ := hall g (by simp)
    obtain ⟨ps, h1, h2⟩ := ih fun g hg => hall g (by simp [hg])
    refine ⟨(g.offset, it.size) :: ps, by simp only [List.mapM_cons, Sem.run_bind, sizeOf_run (htt _ _ hit), Result.andThen_ok, Sem.run_pure, h1], fun i g' it' hg ht => ?_⟩
    cases i with
    | zero => simp at hg; subst hg; rw [hit] at ht; cases ht; rfl
    | succ i => simp at hg; simpa using h2 i g' it' hg ht
theorem step_build {t : TypeId} {ps : Array (Nat × Operand)} {i : TI} {fs : List (Nat × TypeId)} {vs cs : List IV} (htt : TTok P TT) (ho : o.op = .build t ps) (hs : Sim P fx cx σ a w) (h1 : TT t = some i) (hd : i.desc = .struct fs) (hall : ∀ f ∈ fs, ∃ it, TT f.2 = some it)
    (hv : evs σ (ps.toList.map (·.2)) = some vs) (hc : fillIV TT fs (i.zero.map ZC.iv) ((ps.toList.map (·.1)).zip vs) = some cs) (h2 : fin o σ (.agg cs) σ.L K) (hn : Nx P fx cx K next) : o.wp P a w next Q := by
  have hi := htt _ _ h1
  obtain ⟨d, d1, d2, _⟩ := hi.desc
  rw [hd] at d2
  obtain ⟨gs, rfl, hg⟩ := d2
  obtain ⟨j, hj, hj2, hj3, z, hz1, hz2⟩ := hi.info
  obtain ⟨z1, z2⟩ := ofZero_sound (cx := cx) (w := w) hz2
  obtain ⟨pl, p1, p2⟩ := mapM_places (P := P) (w := w) (gs := gs.toList) htt fun g hgm => hall (g.offset, g.type) (by rw [← hg]; exact List.mem_map_of_mem hgm)
  obtain ⟨arr, r1, r2, r3⟩ := fill_struct (a := a) (places := pl.toArray) hg htt (fun i g it hgi ht => by simpa using p2 i g it (by simpa using hgi) ht) hs.s hv hc z1 z2
  refine pure_sound hs (y := .agg arr) ?_ (by unfold VX; exact ⟨arr, rfl, r2, r3⟩) h2 hn
  have hmap : (ps.map fun (i, x) => (i, a.eval x)).toList = ps.toList.map fun p => (p.1, a.eval p.2) := by rw [Array.toList_map]
  have hm : (gs.mapM (fun f => do pure (f.offset, ← sizeOf f.type) : Field → Sem (Nat × Nat))).run P w = .ok pl.toArray w := by
    rw [Array.mapM_eq_mapM_toList, Sem.run_map, p1]; rfl
  simp only [execOp, ho, Instr.build, Sem.run_bind, run_zeroValue hj hz1, Result.andThen_ok, run_underlying d1]
  rw [hm]
  simp only [Result.andThen_ok]
  rw [hmap, r1]
  simp
theorem step_convert_int {s d : TypeId} {x : Operand} {is id : TI} {k k' : IntKind} {n : Int} (htt : TTok P TT) (ho : o.op = .convert s d x) (hs : Sim P fx cx σ a w) (h1 : TT s = some is) (h3 : TT d = some id) (hk : id.num = some k) (hx : ev σ x = some (.v (.int k' n)))
    (h2 : fin o σ (.v (.int k (k.wrap n))) σ.L K) (hn : Nx P fx cx K next) : o.wp P a w next Q := by
  have e := VX.v_inv (ev_sound hs.s hx)
  have hd := (htt _ _ h3).num k hk
  obtain ⟨ds, hds, _⟩ := (htt _ _ h1).desc
  exact pure_sound hs (y := .int k (k.wrap n)) (by simp [execOp, ho, e, convert, run_underlying hds, run_underlying hd, Conv.intToInt]) (by simp [VX]) h2 hn
theorem step_convert_fi {s d : TypeId} {x : Operand} {is id : TI} {k : IntKind} {b : Nat} {n : Int} (htt : TTok P TT) (ho : o.op = .convert s d x) (hs : Sim P fx cx σ a w) (h1 : TT s = some is) (h3 : TT d = some id) (hk : id.num = some k) (hx : ev σ x = some (.v (.float .f64 b)))
    (hv : floatToIntVal .f64 b k = some n) (h2 : fin o σ (.v (.int k n)) σ.L K) (hn : Nx P fx cx K next) : o.wp P a w next Q := by
  have e := VX.v_inv (ev_sound hs.s hx)
  have hd := (htt _ _ h3).num k hk
  obtain ⟨ds, hds, _⟩ := (htt _ _ h1).desc
  have hr := run_convert_float_int w s d .f64 k b n (by rw [hds]; rfl) hd hv
  exact pure_sound hs (y := .int k n) (by simp [execOp, ho, e, hr]) (by simp [VX]) h2 hn
theorem step_convert_if {s d : TypeId} {x : Operand} {is id : TI} {k : IntKind} {n : Int} (htt : TTok P TT) (ho : o.op = .convert s d x) (hs : Sim P fx cx σ a w) (h1 : TT s = some is) (h3 : TT d = some id) (hk : id.desc = .float) (hx : ev σ x = some (.v (.int k n)))
    (h2 : fin o σ (.v (.float .f64 (FloatKind.f64.nearest n))) σ.L K) (hn : Nx P fx cx K next) : o.wp P a w next Q := by
  have e := VX.v_inv (ev_sound hs.s hx)
  obtain ⟨dd, hd, hd2, _⟩ := (htt _ _ h3).desc
  rw [hk] at hd2
  obtain rfl : dd = .float .f64 := hd2
  obtain ⟨ds, hds, _⟩ := (htt _ _ h1).desc
  exact pure_sound hs (y := .float .f64 (FloatKind.f64.nearest n)) (by simp [execOp, ho, e, convert, run_underlying hds, run_underlying hd, Conv.intToFloat]) (by simp [VX]) h2 hn
theorem bytesOfCells_get : ∀ {cs : List IV} {bs : List UInt8}, bytesOfCells cs = some bs → ∃ ns : List Int, cs = ns.map (fun n => .v (.int .u8 n)) ∧ bs = ns.map fun n => UInt8.ofNat n.toNat
  | [], bs, h => by simp [bytesOfCells] at h; subst h; exact ⟨[], rfl, rfl⟩
  | x :: xs, bs, h => by
    unfold bytesOfCells at h
    split at h
    · rename_i e; cases e
    · rename_i n xs' e
      cases e
      rw [Option.map_eq_some_iff] at h
      obtain ⟨bs', h1, rfl⟩ := h
      obtain ⟨ns, rfl, rfl⟩ := bytesOfCells_get h1
      exact ⟨n :: ns, rfl, rfl⟩
    · cases h
theorem foldl_push_ns (ns : List Int) (s : ByteArray) : ns.foldl (fun r n => r.push (UInt8.ofNat n.toNat)) s = ⟨s.data ++ (ns.map fun n => UInt8.ofNat n.toNat).toArray⟩ := by
  induction ns generalizing s with
  | nil => simp
  | cons n ns ih => rw [List.foldl_cons, ih]; congr 1; apply Array.ext'; simp [ByteArray.push]
theorem TRl_v : ∀ {ns : List Int} {us : List Value} {R : Nat → Prop}, TRl R w (ns.map fun n => .v (.int .u8 n)) us → us = ns.map (Value.int .u8)
  | [], us, R, h => by simp [TRl] at h; exact h
  | n :: ns, us, R, h => by
    simp only [List.map_cons] at h
    unfold TRl at h
    obtain ⟨y, ys', rfl, ⟨h1, _⟩, h2⟩ := h
    simp only [TR] at h1
    rw [h1, TRl_v h2]; rfl
theorem srcOf_slice {u e e' : TypeId} {iu : TI} {size : Nat} (hu : TT u = some iu) (hd : iu.desc = .slice e') {x : IV} {y : Value} (hx : VX cx w x y) {m : Nat} {cs : List IV} (h : srcOf σ.L TT u e size x = some (m, cs)) : ∃ ad c, y = .slice ad m c := by
  unfold srcOf at h
  rw [hu] at h
  dsimp only at h
  rw [hd] at h
  cases x <;> dsimp only at h <;> try (cases h; done)
  · split at h
    · cases h; unfold VX at hx; obtain ⟨ad, rfl⟩ := hx; exact ⟨ad, 0, rfl⟩
    · cases h
  · split at h
    · cases h; unfold VX TR at hx; obtain ⟨ad, c, rfl, _⟩ := hx; exact ⟨ad, c, rfl⟩
    · cases h
  · split at h
    · split at h
      · split at h
        · cases h
          unfold VX at hx
          obtain ⟨p, _, hx⟩ := hx
          rcases hx with ⟨_, ⟨ad, rfl⟩, _, rfl⟩ | ⟨g, m, cap, ad, _, rfl, _⟩
          · exact ⟨ad, 0, rfl⟩
          · exact ⟨_, _, rfl⟩
        · cases h
      · cases h
    · cases h
theorem step_convert_bytes {s d e : TypeId} {x : Operand} {is id ie : TI} {v : IV} {m : Nat} {cs : List IV} {bs : List UInt8} (htt : TTok P TT) (ho : o.op = .convert s d x) (hs : Sim P fx cx σ a w) (h1 : TT s = some is) (h3 : TT d = some id)
    (hds : is.desc = .slice e) (hdd : id.desc = .str) (he : TT e = some ie) (hnum : ie.num = some .u8) (hsz1 : ie.size = 1) (hx : ev σ x = some v) (hsrc : srcOf σ.L TT s e 1 v = some (m, cs)) (hbs : bytesOfCells cs = some bs)
    (h2 : fin o σ (.v (.string ⟨bs.toArray⟩)) σ.L K) (hn : Nx P fx cx K next) : o.wp P a w next Q := by
  have hv := ev_sound hs.s hx
  obtain ⟨ad, c, ey⟩ := srcOf_slice h1 hds hv hsrc
  rw [← hsz1] at hsrc
  obtain ⟨news, s1, s2⟩ := srcOf_sound htt hs.m he hv hsrc
  obtain ⟨ns, rfl, rfl⟩ := bytesOfCells_get hbs
  have hnews := TRl_v s2
  subst hnews
  have hus := slice_under (htt _ _ h1) hds
  have hud := str_under (htt _ _ h3) hdd
  have hue := (htt _ _ he).num _ hnum
  refine pure_sound hs (y := .string ⟨(ns.map fun n => UInt8.ofNat n.toNat).toArray⟩) ?_ (by simp [VX]) h2 hn
  have hc := s1.cells w rfl
  have hlen := s1.num
  rw [hsz1, ey] at hc
  rw [hsz1] at hlen
  have hconv : (Conv.bytesToString (.slice ad m c)).run P w = .ok (.string ⟨(ns.map fun n => UInt8.ofNat n.toNat).toArray⟩) w := by
    cases ad with
    | none =>
      simp [Builtin.firstCells] at hc
      rw [hc]; rfl
    | some ad =>
      simp only [Builtin.firstCells, Nat.mul_one] at hc
      rw [run_bytesToString w ad m c ns hc, foldl_push_ns]
      congr 3
      simp
  simp only [execOp, ho, ey, Sem.run_bind, run_convert_bytes_string w s d e ad m c hus hue hud, hconv, Result.andThen_ok, Sem.run_pure]
theorem step_convert_str {s d e : TypeId} {x : Operand} {is id ie : TI} {b : ByteArray} (htt : TTok P TT) (ho : o.op = .convert s d x) (hs : Sim P fx cx σ a w) (h1 : TT s = some is) (h3 : TT d = some id)
    (hds : is.desc = .str) (hdd : id.desc = .slice e) (he : TT e = some ie) (hnum : ie.num = some .u8) (hx : ev σ x = some (.v (.string b))) (h2 : fin o σ (.tr b.size (strCells b)) σ.L K) (hn : Nx P fx cx K next) : o.wp P a w next Q := by
  have ex := VX.v_inv (ev_sound hs.s hx)
  have hus := str_under (htt _ _ h1) hds
  have hud := slice_under (htt _ _ h3) hdd
  have hue := (htt _ _ he).num _ hnum
  have hrun := run_bytes_of_string w s d e b hus hud hue
  let w' := w.drew.alloc (.cells (bytesRow b (grownCap w b.size 0 e)) e ((bytesRow b (grownCap w b.size 0 e)).size, (bytesRow b (grownCap w b.size 0 e)).size + 1))
  have hf : Fr w w' [] := (Fr.drew w []).trans (Fr.alloc_nil w.drew _) (fun _ _ h => .inl h)
  have hm := hs.m.grow hf (fun bb => cx.R bb ∨ bb = w.heap.size) (fun _ h => .inl h) (fun bb h => h.imp (fun h => h) (fun h => ⟨by omega, by subst h; show w.heap.size < (w.drew.heap.push _).size; simp⟩))
  refine fin_sound (w' := w') hs.s (by simp only [execOp, ho, ex, Sem.run_bind, hrun, Result.andThen_ok, Sem.run_pure]; rfl) (cx' := { cx with R := fun bb => cx.R bb ∨ bb = w.heap.size }) ⟨fun _ _ _ h => h, fun _ h => .inl h⟩ hm (hs.m.heapEq hf) ?_ h2 hn
  unfold VX TR
  refine ⟨_, _, rfl, by have := grownCap_ge w b.size 0 e; exact this, .inr ⟨w.heap.size, 0, rfl, .inr rfl, TRm.of_get fun i x hx => ?_⟩⟩
  simp only [strCells, List.getElem?_map, Option.map_eq_some_iff] at hx
  obtain ⟨c, h1, rfl⟩ := hx
  refine ⟨.int .u8 c.toNat, ?_, by simp [TR], rfl⟩
  have hh : w'.heap[w.heap.size]? = some (.cells (bytesRow b (grownCap w b.size 0 e)) e ((bytesRow b (grownCap w b.size 0 e)).size, (bytesRow b (grownCap w b.size 0 e)).size + 1)) := heap_alloc_at w.drew _
  rw [Nat.zero_add, cell_of_row w' w.heap.size i _ e _ hh]
  have hi : i < b.data.size := by have := (List.getElem?_eq_some_iff.1 h1).1; simpa using this
  simp only [bytesRow]
  rw [Array.getElem?_append, if_pos (by simpa using hi)]
  simp at h1
  simp [h1]
end
end Go.Lift
/- All operations; lists of operations; code. -/
namespace Go.Lift
open Go Go.RowKit

section
variable {P : Program} {TT : TTab} {fx : Fx} {cx : Cx} {σ : St} {a : Act} {w : World} {o : Oper} {K : St → Prop} {next : Act → World → Prop} {Q : Exit → Act → World → Prop}

theorem stepOp_sound (htt : TTok P TT) (hs : Sim P fx cx σ a w) (hK : stepOp TT o σ K) (hn : Nx P fx cx K next) : o.wp P a w next Q := by
  unfold stepOp at hK
  split at hK
  · exact step_move (.inl ‹_›) hs hK hn
  · rename_i ho
    obtain ⟨i, t1, hK⟩ := ob_elim hK
    split at hK
    · obtain ⟨ie, t2, hK⟩ := ob_elim hK
      exact step_assign_nil htt ho hs t2 hK hn
    · exact hK.elim
  · exact step_move (.inr ‹_›) hs hK hn
  · obtain ⟨c, t1, hK⟩ := ob_elim hK
    split at hK
    · obtain ⟨v, t2, hK⟩ := ob_elim hK
      exact step_pick ‹_› hs t1 t2 hK hn
    · exact hK.elim
  · obtain ⟨i, t1, hK⟩ := ob_elim hK
    obtain ⟨⟨cs, rs⟩, t2, hK⟩ := ob_elim hK
    exact step_alloc htt ‹_› hs t1 t2 hK hn
  · obtain ⟨i, t1, hK⟩ := ob_elim hK
    obtain ⟨v, t2, h1, hK⟩ := ob_elim hK
    obtain ⟨⟨cs, rs⟩, t3, hK⟩ := ob_elim hK
    exact step_box htt ‹_› hs t2 h1 t3 hK hn
  · obtain ⟨i, t1, hK⟩ := ob_elim hK
    obtain ⟨v, t2, hK⟩ := ob_elim hK
    split at hK
    · obtain ⟨b, t3, hK⟩ := ob_elim hK
      obtain ⟨v, t4, hK⟩ := ob_elim hK
      exact step_load htt ‹_› hs t1 t2 t3 t4 hK hn
    · obtain ⟨v, t4, hK⟩ := ob_elim hK
      exact step_load_ro htt ‹_› hs t1 t2 t4 hK hn
    · exact hK.elim
  · obtain ⟨i, t1, hK⟩ := ob_elim hK
    obtain ⟨p, t2, hK⟩ := ob_elim hK
    obtain ⟨v, t3, hK⟩ := ob_elim hK
    split at hK
    · obtain ⟨b, t4, ⟨c1, c2, c3⟩, c4, c5, c6, hK⟩ := ob_elim hK
      exact step_store htt ‹_› hs t1 t2 t3 t4 c1 c2 c3 c4 c5 c6 hK hn
    · exact hK.elim
  · obtain ⟨v, t1, hK⟩ := ob_elim hK
    split at hK
    · exact step_nilCheck ‹_› hs t1 (.inl ⟨_, _, _, rfl⟩) hK hn
    · exact step_nilCheck ‹_› hs t1 (.inr (.inl ⟨_, _, rfl⟩)) hK hn
    · exact step_nilCheck ‹_› hs t1 (.inr (.inr ⟨_, _, rfl⟩)) hK hn
    · exact hK.elim
  · obtain ⟨u, t1, hK⟩ := ob_elim hK
    obtain ⟨v, t2, hK⟩ := ob_elim hK
    split at hK
    · obtain ⟨i, t3, hd, hK⟩ := ob_elim hK
      obtain ⟨z, t4, hK⟩ := ob_elim hK
      exact step_boolEq htt ‹_› hs t1 t2 t3 hd t4 hK hn
    · obtain ⟨z, t4, hK⟩ := ob_elim hK
      exact step_binOp ‹_› hs t1 t2 t4 hK hn
    · obtain ⟨i, t3, hK⟩ := ob_elim hK
      obtain ⟨ks, t4, hK⟩ := ob_elim hK
      obtain ⟨r, t5, hK⟩ := ob_elim hK
      obtain ⟨z, t6, hK⟩ := ob_elim hK
      exact step_aggEq htt ‹_› hs t1 t2 t3 t4 t5 t6 hK hn
    · exact hK.elim
  · obtain ⟨u, t1, hK⟩ := ob_elim hK
    split at hK
    · obtain ⟨z, t2, hK⟩ := ob_elim hK
      exact step_unOp ‹_› hs t1 t2 hK hn
    · exact hK.elim
  · obtain ⟨i, t1, hK⟩ := ob_elim hK
    obtain ⟨⟨off, t⟩, t2, hK⟩ := ob_elim hK
    obtain ⟨it, t3, hK⟩ := ob_elim hK
    obtain ⟨v, t4, hK⟩ := ob_elim hK
    split at hK
    · exact step_fieldAddr htt ‹_› hs t1 t2 t3 t4 hK hn
    · exact step_fieldAddr_ro htt ‹_› hs t1 t2 t3 t4 hK hn
    · exact hK.elim
  · obtain ⟨i, t1, hK⟩ := ob_elim hK
    obtain ⟨⟨off, t⟩, t2, hK⟩ := ob_elim hK
    obtain ⟨it, t3, hK⟩ := ob_elim hK
    obtain ⟨v, t4, hK⟩ := ob_elim hK
    split at hK
    · obtain ⟨v, t5, hK⟩ := ob_elim hK
      exact step_field htt ‹_› hs t1 t2 t3 t4 t5 hK hn
    · exact hK.elim
  · obtain ⟨i, t1, hK⟩ := ob_elim hK
    obtain ⟨v, t2, hK⟩ := ob_elim hK
    obtain ⟨q, t3, hK⟩ := ob_elim hK
    split at hK
    · obtain ⟨ie, t4, ⟨c1, c2, c3⟩, hK⟩ := ob_elim hK
      exact step_indexAddr_ro htt ‹_› hs t1 ‹_› t4 t2 t3 c1 c2 c3 hK hn
    · obtain ⟨ie, t4, hK⟩ := ob_elim hK
      obtain ⟨b, t5, ⟨c1, c2, c3, c4⟩, hK⟩ := ob_elim hK
      exact step_indexAddr htt ‹_› hs t1 ‹_› t4 t2 t3 t5 c1 c2 c3 c4 hK hn
    · obtain ⟨ie, t4, ⟨c1, c2⟩, hK⟩ := ob_elim hK
      exact step_indexAddr_arr htt ‹_› hs t1 ‹_› t4 t2 t3 c1 c2 hK hn
    · exact hK.elim
  · obtain ⟨i, t1, hK⟩ := ob_elim hK
    obtain ⟨v, t2, hK⟩ := ob_elim hK
    obtain ⟨q, t3, hK⟩ := ob_elim hK
    split at hK
    · obtain ⟨⟨c1, c2⟩, hK⟩ := hK
      exact step_index_str htt ‹_› hs t1 ‹_› t2 t3 c1 c2 hK hn
    · obtain ⟨ie, t4, ⟨c1, c2⟩, hK⟩ := ob_elim hK
      obtain ⟨v, t5, hK⟩ := ob_elim hK
      exact step_index_arr htt ‹_› hs t1 ‹_› t4 t2 t3 c1 c2 t5 hK hn
    · exact hK.elim
  · obtain ⟨v, t1, hK⟩ := ob_elim hK
    split at hK
    · obtain ⟨v, t2, hK⟩ := ob_elim hK
      exact step_extract ‹_› hs t1 t2 hK hn
    · exact hK.elim
  · obtain ⟨i, t1, hK⟩ := ob_elim hK
    obtain ⟨v, t2, hK⟩ := ob_elim hK
    split at hK
    · obtain ⟨l, t3, hK⟩ := ob_elim hK
      obtain ⟨h, t4, ⟨c1, c2⟩, hK⟩ := ob_elim hK
      exact step_slice_str htt ‹_› hs t1 ‹_› t2 t3 t4 c1 c2 hK hn
    · obtain ⟨ie, t5, hK⟩ := ob_elim hK
      obtain ⟨l, t3, hK⟩ := ob_elim hK
      obtain ⟨h, t4, ⟨c1, c2⟩, hK⟩ := ob_elim hK
      exact step_slice_ro htt ‹_› hs t1 ‹_› t5 t2 t3 t4 c1 c2 hK hn
    · obtain ⟨ie, t5, hK⟩ := ob_elim hK
      obtain ⟨b, t6, hK⟩ := ob_elim hK
      obtain ⟨l, t3, hK⟩ := ob_elim hK
      obtain ⟨h, t4, ⟨c1, c2, c3, c4⟩, hK⟩ := ob_elim hK
      exact step_slice_row htt ‹_› hs t1 ‹_› t5 t2 t6 t3 t4 c1 c2 c3 c4 hK hn
    · obtain ⟨ie, t5, hK⟩ := ob_elim hK
      obtain ⟨l, t3, hK⟩ := ob_elim hK
      obtain ⟨h, t4, ⟨c1, c2⟩, hK⟩ := ob_elim hK
      exact step_slice_emp htt ‹_› hs t1 ‹_› ⟨ie, t5⟩ t2 t3 t4 c1 c2 hK hn
    · exact hK.elim
  · obtain ⟨i, t1, hK⟩ := ob_elim hK
    split at hK
    · obtain ⟨ie, t2, hK⟩ := ob_elim hK
      obtain ⟨cs, t3, ⟨c1, c2, c3⟩, c4, c5, hK⟩ := ob_elim hK
      exact step_buildSlice htt ‹_› hs t1 ‹_› t2 t3 c1 c2 c3 c4 c5 hK hn
    · exact hK.elim
  · obtain ⟨i, t1, hK⟩ := ob_elim hK
    split at hK
    · obtain ⟨vs, t2, hK⟩ := ob_elim hK
      obtain ⟨cs, t3, c1, hK⟩ := ob_elim hK
      refine step_build htt ‹_› hs t1 ‹_› (fun f hf => ?_) t2 t3 hK hn
      have := List.all_eq_true.1 c1 f hf
      exact Option.isSome_iff_exists.1 this
    · exact hK.elim
  · obtain ⟨is, t1, hK⟩ := ob_elim hK
    obtain ⟨id, t2, hK⟩ := ob_elim hK
    obtain ⟨v, t3, hK⟩ := ob_elim hK
    split at hK
    · exact step_convert_int htt ‹_› hs t1 t2 ‹_› t3 hK hn
    · obtain ⟨n, t4, hK⟩ := ob_elim hK
      exact step_convert_fi htt ‹_› hs t1 t2 ‹_› t3 t4 hK hn
    · split at hK
      · obtain ⟨ie, t4, ⟨c1, c2⟩, hK⟩ := ob_elim hK
        obtain ⟨⟨m, cs⟩, t5, hK⟩ := ob_elim hK
        obtain ⟨bs, t6, hK⟩ := ob_elim hK
        exact step_convert_bytes htt ‹_› hs t1 t2 ‹_› ‹_› t4 c1 c2 t3 t5 t6 hK hn
      · exact step_convert_if htt ‹_› hs t1 t2 ‹_› t3 hK hn
      · obtain ⟨ie, t4, c1, hK⟩ := ob_elim hK
        exact step_convert_str htt ‹_› hs t1 t2 ‹_› ‹_› t4 c1 t3 hK hn
      · exact hK.elim
  · split at hK
    · obtain ⟨xs, t1, hK⟩ := ob_elim hK
      exact builtin_step htt ‹_› ‹_› hs t1 hK hn
    · exact hK.elim
  · exact hK.elim
end
end Go.Lift
/- Lists of operations, code. -/
namespace Go.Lift
open Go Go.RowKit

section
variable {P : Program} {TT : TTab} {fx : Fx}

def fxF (fx : Fx) : Fence := { Fence.wide with round := fx.rd }
def ndl (l : List Oper) : Bool := l.all fun o => match o.op with
  | .defer _ => false
  | _ => true
theorem ndl_get {l : List Oper} (h : ndl l = true) {o : Oper} (ho : o ∈ l) : ∀ c, o.op ≠ .defer c := fun c e => by
  have := List.all_eq_true.1 h o ho
  rw [e] at this; simp at this
def QN (Q : Exit → Act → World → Prop) : Exit → Act → World → Prop := fun e a w => e = .normal ∧ Q .normal a w
theorem QN.out {Q : Exit → Act → World → Prop} : ¬ LetsOut (QN Q) := fun ⟨_, _, h⟩ => by cases h.1
theorem upon_in {o : Oper} {a : Act} {next : Act → World → Prop} {Q : Exit → Act → World → Prop} {r : Result Next} (h : o.upon P a next Q r) : o.uponIn (fxF fx) 0 P a next Q r := by
  cases r with
  | halt h' w' => cases h' <;> first | exact h | exact h.elim
  | ok n w' =>
    cases n with
    | value v => exact h
    | skip => exact h
    | defer d => exact h
    | enter f args => exact ⟨(fun h => by cases h), (callsIn_wide (n := 0)).2 h⟩
    | row row args => exact ⟨(fun h => by cases h), fun c cs _ => by obtain ⟨v, w', h1, h2⟩ := h c cs; exact ⟨v, w', h1, stepsIn_wide.2 h2⟩⟩
    | _ => exact h.elim
theorem oper_in {o : Oper} (hd : ∀ c, o.op ≠ .defer c) {a : Act} {w : World} {next : Act → World → Prop} {Q : Exit → Act → World → Prop} (h : o.wp P a w next Q) : o.wpIn (fxF fx) 0 P a w next Q := by
  refine ⟨fun _ _ => trivial, ?_⟩
  rw [Oper.semAt_eq _ _ _ hd]
  exact upon_in h
theorem wpList_in {ops : Array Oper} {Q : Exit → Act → World → Prop} : ∀ {l : List Oper} {a : Act} {w : World}, ndl l = true → wpList P ops (QN Q) l a w → wpListIn (fxF fx) 0 P ops (QN Q) l a w
  | [], _, _, _, h => h
  | o :: l, a, w, hd, h => by
    have hl : ndl l = true := List.all_eq_true.2 fun x hx => List.all_eq_true.1 hd x (List.mem_cons_of_mem _ hx)
    unfold wpList at h
    unfold wpListIn
    split at h
    · rw [if_pos ‹_›]
      rcases h with h | ⟨_, h⟩
      · exact oper_in (ndl_get hd (by simp)) (Oper.wp_mono (fun a w h => wpList_in hl h) h)
      · exact absurd h QN.out
    · rw [if_neg ‹_›]
      exact ⟨fun _ _ => trivial, wpList_in hl h⟩
theorem wpOp_in {ops : Array Oper} {Q : Exit → Act → World → Prop} {i : Nat} (hd : ndl ops.toList = true) {K K' : Act → World → Prop} {a : Act} {w : World} (hk : ∀ a w, K a w → K' a w) (h : wpOp P ops (QN Q) i K a w) : wpOpIn (fxF fx) 0 P ops (QN Q) i K' a w := by
  unfold wpOp at h
  unfold wpOpIn
  cases ho : ops[i]? with
  | none => rw [ho] at h; exact hk _ _ h
  | some o =>
    rw [ho] at h
    simp only at h ⊢
    split at h
    · rw [if_pos ‹_›]
      rcases h with h | ⟨_, h⟩
      · exact oper_in (ndl_get hd (by simpa using Array.mem_of_getElem? ho)) (Oper.wp_mono hk h)
      · exact absurd h QN.out
    · rw [if_neg ‹_›]
      exact ⟨fun _ _ => trivial, hk _ _ h⟩
theorem wpAny_in {ops : Array Oper} {md : Region.Mode} {Q : Exit → Act → World → Prop} (hd : ndl ops.toList = true) : ∀ {fuel : Nat} {listed : Array Bool} {a : Act} {w : World}, wpAny P md ops (QN Q) fuel listed a w → wpAnyIn (fxF fx) 0 P md ops (QN Q) fuel listed a w
  | 0, _, _, _, h => h
  | fuel + 1, _, _, _, h => ⟨h.1, fun i hi => wpOp_in hd (fun _ _ h => wpAny_in hd h) (h.2 i hi)⟩
theorem region_any {id : Nat} {ops : Array Oper} {a : Act} {w : World} {Q : Exit → Act → World → Prop} (hm : P.follows .mixedOrders = true) (hd : fx.rd = none ∨ ndl ops.toList = true)
    (h : ∀ Q' : Exit → Act → World → Prop, (∀ a w, Q .normal a w → Q' .normal a w) → wpAny P .any ops Q' ops.size (Array.replicate ops.size false) a { w with drawn := w.drawn + 1 }) : (Code.region id ops true).wpIn (fxF fx) 0 P Q a w := by
  rcases hd with hd | hd
  · have : fxF fx = Fence.wide := by unfold fxF; rw [hd]; rfl
    rw [this]
    exact wpIn_wide.2 (wp_region_any hm (h Q fun _ _ h => h))
  · exact wpIn_mono (wpIn_region_any hm (wpAny_in hd (h (QN Q) fun _ _ h => ⟨rfl, h⟩))) fun e a w h => by obtain ⟨rfl, h⟩ := h; exact h
def IW (P : Program) (fx : Fx) (c : Code) (Q : Exit → St → Prop) (σ : St) : Prop :=
  ∀ cx a w (QQ : Exit → Act → World → Prop), Sim P fx cx σ a w → (∀ e σ' cx' a' w', Q e σ' → Sim P fx cx' σ' a' w' → QQ e a' w') → c.wpIn (fxF fx) 0 P QQ a w
def IL (P : Program) (fx : Fx) (ops : Array Oper) (l : List Oper) (K : St → Prop) (σ : St) : Prop :=
  ∀ cx a w (QQ : Exit → Act → World → Prop), Sim P fx cx σ a w → (∀ σ' cx' a' w', K σ' → Sim P fx cx' σ' a' w' → QQ .normal a' w') → wpList P ops QQ l a w
def IP (P : Program) (fx : Fx) (o : Oper) (K : St → Prop) (σ : St) : Prop :=
  ∀ cx a w (next : Act → World → Prop) (QQ : Exit → Act → World → Prop), Sim P fx cx σ a w → (∀ σ1 cx' a' w', K σ1 → Sim P fx cx' σ1 a' w' → next a' w') → o.wp P a w next QQ

theorem IP.of_step {o : Oper} {K : St → Prop} {σ : St} (htt : TTok P TT) (h : stepOp TT o σ K) : IP P fx o K σ :=
  fun _ _ _ _ _ hs hn => stepOp_sound htt hs h fun σ1 cx' a' w' hK _ hs' => hn σ1 cx' a' w' hK hs'
theorem IL.nil {ops : Array Oper} {K : St → Prop} {σ : St} (h : K σ) : IL P fx ops [] K σ := fun _ _ _ _ hs hn => wpList_nil (hn _ _ _ _ h hs)
theorem IL.cons {ops : Array Oper} {o : Oper} {l : List Oper} {K : St → Prop} {σ : St} (hg : o.guard = none) (h : IP P fx o (IL P fx ops l K) σ) : IL P fx ops (o :: l) K σ :=
  fun cx a w QQ hs hn => wpList_plain hg fun K' hK' => h cx a w K' QQ hs fun _ cx' a' w' hl hs' => hK' _ _ (hl cx' a' w' QQ hs' hn)
def gval (ops : Array Oper) (σ : St) (j : Nat) : Option IV := ((ops[j]?).bind (·.dst)).bind (lk σ.T)
theorem yielded_bool {ops : Array Oper} {σ : St} {cx : Cx} {a : Act} {w : World} (hs : Tmps cx σ a w) {j : Nat} {b : Bool} (h : gval ops σ j = some (.v (.bool b))) : yielded ops a.tmps j = some b := by
  unfold gval at h
  unfold yielded
  cases hd : (ops[j]?).bind (·.dst) with
  | none => rw [hd] at h; cases h
  | some d =>
    rw [hd] at h
    simp only [Option.bind_some] at h ⊢
    obtain ⟨y, h1, h2⟩ := hs.tmp d _ h
    rw [VX.v_inv h2] at h1
    simp [h1]
theorem yielded_undef {ops : Array Oper} {σ : St} {cx : Cx} {a : Act} {w : World} (hs : Tmps cx σ a w) {j : Nat} (h : gval ops σ j = some (.v (.tuple #[]))) : yielded ops a.tmps j = none := by
  unfold gval at h
  unfold yielded
  cases hd : (ops[j]?).bind (·.dst) with
  | none => rw [hd] at h; cases h
  | some d =>
    rw [hd] at h
    simp only [Option.bind_some] at h ⊢
    obtain ⟨y, h1, h2⟩ := hs.tmp d _ h
    rw [VX.v_inv h2] at h1
    simp [h1]
def skipOp (o : Oper) (σ : St) (K : St → Prop) : Prop := fin o σ (.v (.tuple #[])) σ.L K
theorem IL.guard {ops : Array Oper} {o : Oper} {l : List Oper} {K : St → Prop} {σ : St} {j : Nat} {want b : Bool} (hg : o.guard = some (j, want)) (hb : gval ops σ j = some (.v (.bool b)))
    (h1 : b = want → IP P fx o (IL P fx ops l K) σ) (h2 : ¬ b = want → skipOp o σ (IL P fx ops l K)) : IL P fx ops (o :: l) K σ := by
  intro cx a w QQ hs hn
  unfold wpList
  have hy := yielded_bool hs.s hb
  by_cases hw : b = want
  · rw [if_pos (by simp [Region.wanted, hg, hy, hw])]
    exact .inl (h1 hw cx a w _ QQ hs fun σ' cx' a' w' hl hs' => hl cx' a' w' QQ hs' hn)
  · rw [if_neg (by simp [Region.wanted, hg, hy, hw])]
    have := h2 hw
    unfold skipOp fin at this
    split at this
    · rename_i d hd
      rw [hd]
      exact this.2 cx _ w QQ ⟨hs.m.sameL rfl, (hs.s.put d this.1 (.v (.tuple #[])) undef (by simp [VX]; rfl))⟩ hn
    · rename_i hd
      rw [hd]
      exact this cx a w QQ hs hn
theorem IL.guard_undef {ops : Array Oper} {o : Oper} {l : List Oper} {K : St → Prop} {σ : St} {j : Nat} {want : Bool} (hg : o.guard = some (j, want)) (hb : gval ops σ j = some (.v (.tuple #[])))
    (h2 : skipOp o σ (IL P fx ops l K)) : IL P fx ops (o :: l) K σ := by
  intro cx a w QQ hs hn
  unfold wpList
  have hy := yielded_undef hs.s hb
  rw [if_neg (by simp [Region.wanted, hg, hy])]
  unfold skipOp fin at h2
  split at h2
  · rename_i d hd
    rw [hd]
    exact h2.2 cx _ w QQ ⟨hs.m.sameL rfl, (hs.s.put d h2.1 (.v (.tuple #[])) undef (by simp [VX]; rfl))⟩ hn
  · rename_i hd
    rw [hd]
    exact h2 cx a w QQ hs hn

theorem IW.region {id : Nat} {l : List Oper} {Q : Exit → St → Prop} {σ : St} (h : IL P fx l.toArray l (Q .normal) σ) (hd : fx.rd = none ∨ ndl l = true := by exact .inr rfl) : IW P fx (.region id l.toArray false) Q σ := by
  intro cx a w QQ hs hn
  rcases hd with hd | hd
  · have : fxF fx = Fence.wide := by unfold fxF; rw [hd]; rfl
    rw [this]
    exact wpIn_wide.2 (wp_region_lit (h cx a w QQ hs fun σ' cx' a' w' hQ hs' => hn .normal σ' cx' a' w' hQ hs'))
  · exact wpIn_mono (wpIn_region_lit (wpList_in hd (h cx a w (QN QQ) hs fun σ' cx' a' w' hQ hs' => ⟨rfl, hn .normal σ' cx' a' w' hQ hs'⟩))) fun e a w h => by obtain ⟨rfl, h⟩ := h; exact h
def thenQ (next : St → Prop) (Q : Exit → St → Prop) : Exit → St → Prop
  | .normal, σ => next σ
  | e, σ => Q e σ
def blockQ (id : Nat) (Q : Exit → St → Prop) : Exit → St → Prop
  | .exit id', σ => if id' = id then Q .normal σ else Q (.exit id') σ
  | e, σ => Q e σ
def jumpQ (J : Nat → St → Prop) (Q : Exit → St → Prop) : Exit → St → Prop
  | .goto l, σ => J l σ
  | e, σ => Q e σ
theorem IW.seq {x y : Code} {Q : Exit → St → Prop} {σ : St} (h : IW P fx x (thenQ (IW P fx y Q) Q) σ) : IW P fx (.seq x y) Q σ := by
  intro cx a w QQ hs hn
  refine wpIn_seq (h cx a w _ hs fun e σ' cx' a' w' hq hs' => ?_)
  cases e <;> simp only [thenQ] at hq <;> simp only [Exit.then] <;> first
    | exact hq cx' a' w' QQ hs' hn
    | exact hn _ _ _ _ _ hq hs'
theorem IW.skip {Q : Exit → St → Prop} {σ : St} (h : Q .normal σ) : IW P fx .skip Q σ := fun _ _ _ _ hs hn => wpIn_skip (hn _ _ _ _ _ h hs)
theorem IW.label {l : Nat} {Q : Exit → St → Prop} {σ : St} (h : Q .normal σ) : IW P fx (.label l) Q σ := fun _ _ _ _ hs hn => wpIn_label (hn _ _ _ _ _ h hs)
theorem IW.exit {id : Nat} {Q : Exit → St → Prop} {σ : St} (h : Q (.exit id) σ) : IW P fx (.exit id) Q σ := fun _ _ _ _ hs hn => wpIn_exit (hn _ _ _ _ _ h hs)
theorem IW.goto {l : Nat} {Q : Exit → St → Prop} {σ : St} (h : Q (.goto l) σ) : IW P fx (.goto l) Q σ := fun _ _ _ _ hs hn => wpIn_goto (hn _ _ _ _ _ h hs)
theorem IW.ret {Q : Exit → St → Prop} {σ : St} (h : Q .ret σ) : IW P fx .ret Q σ := fun _ _ _ _ hs hn => wpIn_ret (hn _ _ _ _ _ h hs)
theorem IW.cond {c : Operand} {x y : Code} {Q : Exit → St → Prop} {σ : St} {b : Bool} (hb : ev σ c = some (.v (.bool b))) (h1 : b = true → IW P fx x Q σ) (h2 : b = false → IW P fx y Q σ) : IW P fx (.cond c x y) Q σ := by
  intro cx a w QQ hs hn
  have e := VX.v_inv (ev_sound hs.s hb)
  refine wpIn_cond e ?_
  cases b
  · exact h2 rfl cx a w QQ hs hn
  · exact h1 rfl cx a w QQ hs hn
theorem IW.block {id : Nat} {c : Code} {Q : Exit → St → Prop} {σ : St} (h : IW P fx c (blockQ id Q) σ) : IW P fx (.block id c) Q σ := by
  intro cx a w QQ hs hn
  refine wpIn_block (h cx a w _ hs fun e σ' cx' a' w' hq hs' => ?_)
  cases e <;> simp only [blockQ] at hq <;> simp only [Exit.inBlock] <;> first
    | exact hn _ _ _ _ _ hq hs'
    | (split
       · rename_i e; rw [if_pos e] at hq; exact hn _ _ _ _ _ hq hs'
       · rename_i e; rw [if_neg e] at hq; exact hn _ _ _ _ _ hq hs')
theorem IW.mono {c : Code} {Q Q' : Exit → St → Prop} {σ : St} (h : IW P fx c Q σ) (hq : ∀ e σ, Q e σ → Q' e σ) : IW P fx c Q' σ :=
  fun cx a w QQ hs hn => h cx a w QQ hs fun e σ' cx' a' w' hQ hs' => hn e σ' cx' a' w' (hq _ _ hQ) hs'

def Weak (P : Program) (fx : Fx) (σ σ' : St) : Prop := ∀ cx a w, Sim P fx cx σ a w → ∃ cx', Sim P fx cx' σ' a w
theorem IW.weak {c : Code} {Q : Exit → St → Prop} {σ σ' : St} (hw : Weak P fx σ σ') (h : IW P fx c Q σ') : IW P fx c Q σ :=
  fun cx a w QQ hs hn => by obtain ⟨cx', hs'⟩ := hw cx a w hs; exact h cx' a w QQ hs' hn

theorem IW.loop {c : Code} {Q : Exit → St → Prop} {σ : St} (I : Nat → St → Prop) (n0 : Nat) (h0 : ∃ σ', Weak P fx σ σ' ∧ I n0 σ')
    (h : ∀ n σ, I n σ → IW P fx c (thenQ (fun σ1 => ∃ σ' m, Weak P fx σ1 σ' ∧ m < n ∧ I m σ') Q) σ) : IW P fx (.loop c) Q σ := by
  intro cx a w QQ hs hn
  obtain ⟨σ', hw, hI⟩ := h0
  obtain ⟨cx', hs'⟩ := hw cx a w hs
  refine wpIn_loop_ghost (fun n a w => ∃ σ cx, I n σ ∧ Sim P fx cx σ a w) n0 ⟨σ', cx', hI, hs'⟩ ?_
  rintro n a w ⟨σ, cx, hI, hs⟩
  refine h n σ hI cx a w _ hs fun e σ1 cx1 a1 w1 hq hs1 => ?_
  cases e <;> simp only [thenQ] at hq <;> simp only [Exit.then] <;> first
    | exact hn _ _ _ _ _ hq hs1
    | (obtain ⟨σ2, m, hw, hm, hI2⟩ := hq
       obtain ⟨cx2, hs2⟩ := hw cx1 a1 w1 hs1
       exact ⟨m, hm, σ2, cx2, hI2, hs2⟩)

theorem stepR_scope {b : Frame} {a : Act} {k : List Item} {cs : List Frame} {w : World} {c : Code} : step P (lone (b.atR a (.code (.scope c) :: k)) cs w) = .next (lone (b.atR a (.code c :: .inScope c :: k)) cs w) :=
  step_lone_go (by simp [stepG, stepG.exec, Frame.atR])
theorem stepR_inScope {b : Frame} {a : Act} {k : List Item} {cs : List Frame} {w : World} {c : Code} : step P (lone (b.atR a (.inScope c :: k)) cs w) = .next (lone (b.atR a k) cs w) :=
  step_lone_go (by simp [stepG, stepG.exec, Frame.atR])
theorem wpIn_scope_multi {F : Fence} {n0 : Nat} {c : Code} {QQ : Exit → Act → World → Prop} {a : Act} {w : World} (J : Nat → Nat → Act → World → Prop)
    (first : c.wpIn F n0 P (fun e a w => match e with | .goto l => ∃ n, J n l a w | e => QQ e a w) a w)
    (pass : ∀ n l a w, J n l a w → ∃ rest, findLabel c l = some rest ∧ rest.wpIn F n0 P (fun e a w => match e with | .goto l' => ∃ m, m < n ∧ J m l' a w | e => QQ e a w) a w) : (Code.scope c).wpIn F n0 P QQ a w := by
  intro b k cs hro hb hr
  have h0 : (lone (b.atR a (.code (.scope c) :: k)) cs w).fenced P F := fenced_calm hb hr rfl
  have key : ∀ n l a w rest, findLabel c l = some rest → J n l a w → ∃ e a' w', QQ e a' w' ∧ ArrivesIn (Machine.fenced P F) P (lone (b.atR a (.code rest :: .inScope c :: k)) cs w) b k cs e a' w' := by
    intro n
    induction n using Nat.strongRecOn with
    | _ n ih =>
      intro l a w rest hl hJ
      obtain ⟨rest', hl', hp⟩ := pass n l a w hJ
      rw [hl] at hl'; cases hl'
      obtain ⟨e, a₁, w₁, hq, harr⟩ := hp b (.inScope c :: k) cs hro hb hr
      cases e with
      | normal => exact ⟨.normal, a₁, w₁, hq, StepsIn.trans harr (.one (fenced_calm hb hr rfl) stepR_inScope)⟩
      | exit id => exact ⟨.exit id, a₁, w₁, hq, fun k' hk => harr.1 k' (by simp [exitTo, hk]), fun hr' hk => harr.2 hr' (by simp [exitTo, hk])⟩
      | goto l' =>
        obtain ⟨m, hm, hJ'⟩ := hq
        obtain ⟨rest2, hl2, _⟩ := pass m l' a₁ w₁ hJ'
        have hg : gotoIn l' (.inScope c :: k) = some (.code rest2 :: .inScope c :: k) := by simp [gotoIn, hl2]
        obtain ⟨e₂, a₂, w₂, hq₂, harr₂⟩ := ih m hm l' a₁ w₁ rest2 hl2 hJ'
        exact ⟨e₂, a₂, w₂, hq₂, .of_steps (harr.1 _ hg) harr₂⟩
      | ret => exact ⟨_, a₁, w₁, hq, harr⟩
      | panic ch => exact ⟨_, a₁, w₁, hq, harr⟩
      | outgrown => exact ⟨_, a₁, w₁, hq, harr⟩
  obtain ⟨e, a₁, w₁, hq, harr⟩ := first b (.inScope c :: k) cs hro hb hr
  cases e with
  | normal => exact ⟨.normal, a₁, w₁, hq, .head h0 stepR_scope (StepsIn.trans harr (.one (fenced_calm hb hr rfl) stepR_inScope))⟩
  | exit id => exact ⟨.exit id, a₁, w₁, hq, .of_steps (.one h0 stepR_scope) (show ArrivesIn _ P _ b k cs (.exit id) a₁ w₁ from ⟨fun k' hk => harr.1 k' (by simp [exitTo, hk]), fun hr' hk => harr.2 hr' (by simp [exitTo, hk])⟩)⟩
  | goto l' =>
    obtain ⟨n, hJ⟩ := hq
    obtain ⟨rest, hl, _⟩ := pass n l' a₁ w₁ hJ
    have hg : gotoIn l' (.inScope c :: k) = some (.code rest :: .inScope c :: k) := by simp [gotoIn, hl]
    obtain ⟨e₂, a₂, w₂, hq₂, harr₂⟩ := key n l' a₁ w₁ rest hl hJ
    exact ⟨e₂, a₂, w₂, hq₂, .of_steps (.head h0 stepR_scope (harr.1 _ hg)) harr₂⟩
  | ret => exact ⟨_, a₁, w₁, hq, .of_steps (.one h0 stepR_scope) harr⟩
  | panic ch => exact ⟨_, a₁, w₁, hq, .of_steps (.one h0 stepR_scope) harr⟩
  | outgrown => exact ⟨_, a₁, w₁, hq, .of_steps (.one h0 stepR_scope) harr⟩

theorem IW.scope {c : Code} {Q : Exit → St → Prop} {σ : St} (J : Nat → Nat → St → Prop) (h0 : IW P fx c (jumpQ (fun l σ1 => ∃ σ' n, Weak P fx σ1 σ' ∧ J n l σ') Q) σ)
    (h : ∀ n l σ, J n l σ → ∃ rest, findLabel c l = some rest ∧ IW P fx rest (jumpQ (fun l σ1 => ∃ σ' m, Weak P fx σ1 σ' ∧ m < n ∧ J m l σ') Q) σ) : IW P fx (.scope c) Q σ := by
  intro cx a w QQ hs hn
  refine wpIn_scope_multi (fun n l a w => ∃ σ cx, J n l σ ∧ Sim P fx cx σ a w) ?_ ?_
  · refine h0 cx a w _ hs fun e σ1 cx1 a1 w1 hq hs1 => ?_
    cases e <;> simp only [jumpQ] at hq <;> first
      | exact hn _ _ _ _ _ hq hs1
      | (obtain ⟨σ2, n, hw, hJ⟩ := hq
         obtain ⟨cx2, hs2⟩ := hw cx1 a1 w1 hs1
         exact ⟨n, σ2, cx2, hJ, hs2⟩)
  · rintro n l a w ⟨σ, cx, hJ, hs⟩
    obtain ⟨rest, hl, hr⟩ := h n l σ hJ
    refine ⟨rest, hl, hr cx a w _ hs fun e σ1 cx1 a1 w1 hq hs1 => ?_⟩
    cases e <;> simp only [jumpQ] at hq <;> first
      | exact hn _ _ _ _ _ hq hs1
      | (obtain ⟨σ2, m, hw, hm, hJ⟩ := hq
         obtain ⟨cx2, hs2⟩ := hw cx1 a1 w1 hs1
         exact ⟨m, hm, σ2, cx2, hJ, hs2⟩)
end
end Go.Lift
