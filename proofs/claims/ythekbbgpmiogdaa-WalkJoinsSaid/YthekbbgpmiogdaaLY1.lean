/- One operation looks at its own operands and at the blocks that they lead to, at nothing else. -/
import Derived.Test.YthekbbgpmiogdaaLZ4
namespace Go.Lift
open Go Go.RowKit

def opds : Op → List Operand
  | .move x => [x]
  | .assign x => [x]
  | .pick c x y => [c, x, y]
  | .box _ x => [x]
  | .load _ x => [x]
  | .store _ x y => [x, y]
  | .nilCheck x => [x]
  | .binOp _ _ x y _ => [x, y]
  | .unOp _ _ x => [x]
  | .fieldAddr _ x _ => [x]
  | .field _ x _ => [x]
  | .indexAddr _ x y => [x, y]
  | .index _ x y => [x, y]
  | .extract x _ => [x]
  | .slice _ x lo hi mx => x :: (lo.toList ++ (hi.toList ++ mx.toList))
  | .buildSlice _ _ ps => ps.toList.map (·.2)
  | .build _ ps => ps.toList.map (·.2)
  | .convert _ _ x => [x]
  | .makeSlice _ x y => [x, y]
  | .makeFunc _ xs ys => xs.toList ++ ys.toList
  | .call c => (match c.callee with | .value f => [f] | .invoke r _ => [r] | .builtin _ => []) ++ c.args.toList
  | _ => []
/-- operations that leave the blocks as they are -/
def isRd : Op → Bool
  | .move _ => true
  | .assign (.const (.slice _ _ _)) => false
  | .assign _ => true
  | .pick _ _ _ => true
  | .load _ _ => true
  | .nilCheck _ => true
  | .binOp _ _ _ _ _ => true
  | .unOp _ _ _ => true
  | .fieldAddr _ _ _ => true
  | .field _ _ _ => true
  | .indexAddr _ _ _ => true
  | .index _ _ _ => true
  | .extract _ _ => true
  | .slice _ _ _ _ _ => true
  | .build _ _ => true
  | .convert _ _ _ => true
  | .call c => match c.callee with
    | .builtin .len => true
    | .builtin .max => true
    | .builtin .min => true
    | .builtin .real => true
    | .builtin .imag => true
    | .builtin .complex => true
    | _ => false
  | _ => false
/-- all blocks of L are there in L', too (some may be read only by now) -/
def LE (L L' : List (Option Blk)) : Prop := ∀ k ver b, blkAt L k ver = some b → ∃ f, blkAt L' k ver = some { b with frz := f }
theorem LE.refl (L : List (Option Blk)) : LE L L := fun _ _ b h => ⟨b.frz, h⟩
theorem LE.trans {a b c : List (Option Blk)} (h : LE a b) (h' : LE b c) : LE a c := fun k ver x hx => by
  obtain ⟨f, h1⟩ := h k ver x hx
  obtain ⟨f2, h2⟩ := h' k ver _ h1
  exact ⟨f2, h2⟩
def leL : List (Option Blk) → List (Option Blk) → Prop
  | [], _ => True
  | none :: a, _ :: b => leL a b
  | some x :: a, some y :: b => { x with frz := y.frz } = y ∧ leL a b
  | _, _ => False
theorem LE.of : ∀ {L L' : List (Option Blk)}, leL L L' → LE L L'
  | [], L', _ => fun k ver b h => by simp [blkAt] at h
  | none :: a, [], h => h.elim
  | some _ :: a, [], h => h.elim
  | none :: a, y :: L', h => fun k ver b hb => by
    cases k with
    | zero => simp [blkAt] at hb
    | succ k =>
      have := LE.of (L := a) (L' := L') h k ver b (by simpa [blkAt] using hb)
      simpa [blkAt] using this
  | some x :: a, none :: L', h => h.elim
  | some x :: a, some y :: L', h => fun k ver b hb => by
    cases k with
    | zero =>
      obtain ⟨e1, e2⟩ := blkAt_some hb
      obtain rfl : x = b := by simpa using e1
      refine ⟨y.frz, ?_⟩
      have h1 := h.1
      have hv : y.ver = ver := (congrArg Blk.ver h1).symm.trans e2
      simp only [blkAt, List.getElem?_cons_zero, hv, if_true]
      exact congrArg some h1.symm
    | succ k =>
      have := LE.of (L := a) (L' := L') h.2 k ver b (by simpa [blkAt] using hb)
      simpa [blkAt] using this
theorem LE.app (L M : List (Option Blk)) : LE L (L ++ M) := fun k ver b h => by
  refine ⟨b.frz, ?_⟩
  obtain ⟨h1, h2⟩ := blkAt_some h
  subst h2
  simp only [blkAt, List.getElem?_append_left (List.getElem?_eq_some_iff.1 h1).1, h1, if_true]

/-- the same, but for the blocks X -/
def LEX (X : List Nat) (L L' : List (Option Blk)) : Prop := ∀ k ver b, X.contains k = false → blkAt L k ver = some b → ∃ f, blkAt L' k ver = some { b with frz := f }
theorem LEX.refl (X : List Nat) (L : List (Option Blk)) : LEX X L L := fun _ _ b _ h => ⟨b.frz, h⟩
theorem LEX.trans {X : List Nat} {a b c : List (Option Blk)} (h : LEX X a b) (h' : LEX X b c) : LEX X a c := fun k ver x hk hx => by
  obtain ⟨f, h1⟩ := h k ver x hk hx
  obtain ⟨f2, h2⟩ := h' k ver _ hk h1
  exact ⟨f2, h2⟩
theorem LE.lex {X : List Nat} {L L' : List (Option Blk)} (h : LE L L') : LEX X L L' := fun k ver b _ hb => h k ver b hb
def maskL (X : List Nat) : Nat → List (Option Blk) → List (Option Blk)
  | _, [] => []
  | i, b :: L => (if X.contains i = true then none else b) :: maskL X (i + 1) L
theorem maskL_get (X : List Nat) : ∀ (L : List (Option Blk)) (i k : Nat) (b : Blk), (maskL X i L)[k]? = some (some b) → X.contains (i + k) = false ∧ L[k]? = some (some b)
  | [], i, k, b, h => by simp [maskL] at h
  | x :: L, i, 0, b, h => by
    simp only [maskL, List.getElem?_cons_zero, Option.some.injEq] at h
    split at h
    · cases h
    · rename_i hx
      exact ⟨by simpa using hx, by simp [h]⟩
  | x :: L, i, k + 1, b, h => by
    simp only [maskL, List.getElem?_cons_succ] at h
    obtain ⟨h1, h2⟩ := maskL_get X L (i + 1) k b h
    exact ⟨by rw [show i + (k + 1) = i + 1 + k by omega]; exact h1, by simpa using h2⟩
theorem LEX.mask {X : List Nat} {L L' : List (Option Blk)} (h : LEX X L L') : LE (maskL X 0 L) L' := fun k ver b hb => by
  obtain ⟨h1, h2⟩ := blkAt_some hb
  obtain ⟨h3, h4⟩ := maskL_get X L 0 k b h1
  rw [Nat.zero_add] at h3
  subst h2
  exact h k b.ver b h3 (by simp [blkAt, h4])
def leLX (X : List Nat) : Nat → List (Option Blk) → List (Option Blk) → Prop
  | _, [], _ => True
  | i, none :: a, _ :: b => leLX X (i + 1) a b
  | i, some x :: a, y :: b => (X.contains i = true ∨ ∃ f, y = some { x with frz := f }) ∧ leLX X (i + 1) a b
  | _, _ :: _, [] => False
theorem leLX_get (X : List Nat) : ∀ (L L' : List (Option Blk)) (i k : Nat) (b : Blk), leLX X i L L' → X.contains (i + k) = false → L[k]? = some (some b) → ∃ f, L'[k]? = some (some { b with frz := f })
  | [], _, i, k, b, _, _, h => by simp at h
  | none :: a, y :: L', i, 0, b, _, _, h => by simp at h
  | none :: a, y :: L', i, k + 1, b, hl, hX, h => by
    simpa using leLX_get X a L' (i + 1) k b hl (by rw [show i + 1 + k = i + (k + 1) by omega]; exact hX) (by simpa using h)
  | some x :: a, y :: L', i, 0, b, hl, hX, h => by
    simp at h; subst h
    rcases hl.1 with h | ⟨f, rfl⟩
    · rw [Nat.add_zero] at hX; rw [hX] at h; cases h
    · exact ⟨f, rfl⟩
  | some x :: a, y :: L', i, k + 1, b, hl, hX, h => by
    simpa using leLX_get X a L' (i + 1) k b hl.2 (by rw [show i + 1 + k = i + (k + 1) by omega]; exact hX) (by simpa using h)
  | none :: a, [], _, _, _, hl, _, _ => hl.elim
  | some x :: a, [], _, _, _, hl, _, _ => hl.elim
theorem LEX.of {X : List Nat} {L L' : List (Option Blk)} (h : leLX X 0 L L') : LEX X L L' := fun k ver b hX hb => by
  obtain ⟨h1, h2⟩ := blkAt_some hb
  obtain ⟨f, hf⟩ := leLX_get X L L' 0 k b h (by rw [Nat.zero_add]; exact hX) h1
  subst h2
  exact ⟨f, by simp [blkAt, hf]⟩

theorem ob_mono {α : Type} {x y : Option α} {f g : α → Prop} (h : ob x f) (hx : ∀ v, x = some v → y = some v) (hf : ∀ v, x = some v → f v → g v) : ob y g := by
  cases x with
  | none => exact h.elim
  | some v => rw [hx v rfl]; exact hf v rfl h
theorem ob_same {α : Type} {x : Option α} {f g : α → Prop} (h : ob x f) (hf : ∀ v, x = some v → f v → g v) : ob x g := ob_mono h (fun _ h => h) hf

section
variable {TT : TTab} {σ σ2 : St} {o : Oper} {K K2 : St → Prop}
/-- what σ knows of operand x, σ2 knows, too -/
def Kn (σ σ2 : St) (x : Operand) : Prop := ∀ v, ev σ x = some v → ev σ2 x = some v
theorem Kn.const {σ σ2 : St} (x : Operand) (h : ∀ t, x = .tmp t → ∀ v, lk σ.T t = some v → lk σ2.T t = some v) : Kn σ σ2 x := fun v hv => by
  cases x with
  | tmp t => exact h t rfl v hv
  | const c => exact hv
  | func f => exact hv
  | global g => exact hv
theorem evs_kn : ∀ {xs : List Operand} {vs : List IV}, (∀ x ∈ xs, Kn σ σ2 x) → evs σ xs = some vs → evs σ2 xs = some vs
  | [], vs, _, h => h
  | x :: xs, vs, hk, h => by
    unfold evs at h ⊢
    split at h
    · rename_i y ys h1 h2
      rw [hk x (by simp) y h1, evs_kn (fun x hx => hk x (by simp [hx])) h2]; exact h
    · cases h
theorem bnd_kn {x : Option Operand} {d l : Nat} (hk : ∀ y ∈ x.toList, Kn σ σ2 y) (h : bnd σ x d = some l) : bnd σ2 x d = some l := by
  cases x with
  | none => exact h
  | some x =>
    simp only [bnd] at h ⊢
    split at h
    · rename_i k n hv
      rw [hk x (by simp) _ hv]; exact h
    · cases h
theorem litCells_kn {size : Nat} : ∀ {ps : List (Nat × Operand)} {j : Nat} {cs : List IV}, (∀ x ∈ ps.map (·.2), Kn σ σ2 x) → litCells size j ps σ = some cs → litCells size j ps σ2 = some cs
  | [], j, cs, _, h => h
  | p :: ps, j, cs, hk, h => by
    obtain ⟨i, x⟩ := p
    unfold litCells at h ⊢
    split at h
    · rename_i a r h1 h2
      rw [hk x (by simp) a h1, litCells_kn (fun x hx => hk x (by simp at hx ⊢; exact .inr hx)) h2]
      exact h
    · cases h
theorem appendTo_kn {t u : TypeId} {x y : IV} (h : appendTo σ TT o t u x y K) (hL : σ2.L = σ.L) (hf : ∀ v L', fin o σ v L' K → fin o σ2 v L' K2) : appendTo σ2 TT o t u x y K2 := by
  unfold appendTo at h ⊢
  rw [hL]
  refine ob_same h fun it _ h => ?_
  split at h
  · refine ob_same h fun ie _ h => ob_same h fun p _ h => ?_
    obtain ⟨m, xs⟩ := p
    cases x <;> first
      | exact h.elim
      | exact ⟨h.1, h.2.1, hf _ _ h.2.2⟩
      | exact ob_same h fun b _ h => ⟨h.1, h.2.1, h.2.2.1, hf _ _ h.2.2.2⟩
  · exact h.elim
theorem stepBuiltin_kn {b : Builtin} {ts : Array TypeId} {xs : List IV} (h : stepBuiltin TT o b ts xs σ K) (hL : σ2.L = σ.L) (hf : ∀ v L', fin o σ v L' K → fin o σ2 v L' K2) : stepBuiltin TT o b ts xs σ2 K2 := by
  unfold stepBuiltin at h ⊢
  rw [hL]
  split at h <;> first
    | exact h.elim
    | exact hf _ _ h
    | exact ob_same h fun t _ h => ob_same h fun i _ h => ⟨h.1, hf _ _ h.2⟩
    | exact ob_same h fun t _ h => hf _ _ h
    | (split at h
       · exact appendTo_kn h hL hf
       · exact h.elim)
/-- the same operation in another state that knows as much and has the same blocks -/
theorem stepOp_kn (h : stepOp TT o σ K) (hL : σ2.L = σ.L) (hk : ∀ x ∈ opds o.op, Kn σ σ2 x) (hf : ∀ v L', fin o σ v L' K → fin o σ2 v L' K2) : stepOp TT o σ2 K2 := by
  obtain ⟨N, T, L⟩ := σ
  obtain ⟨N2, T2, L2⟩ := σ2
  obtain rfl : L2 = L := hL
  obtain ⟨dst, op, ty, pos, af, gd⟩ := o
  cases op
  case move x => exact ob_mono h (hk x (by simp [opds])) fun v _ h => hf _ _ h
  case assign x =>
    have gen : ob (ev ⟨N, T, L2⟩ x) (fun v => fin ⟨dst, .assign x, ty, pos, af, gd⟩ ⟨N, T, L2⟩ v L2 K) → ob (ev ⟨N2, T2, L2⟩ x) (fun v => fin ⟨dst, .assign x, ty, pos, af, gd⟩ ⟨N2, T2, L2⟩ v L2 K2) :=
      fun h => ob_mono h (hk x (by simp [opds])) fun v _ h => hf _ _ h
    simp only [stepOp] at h ⊢
    split at h <;> first
      | exact h.elim
      | (rename_i e; cases e; done)
      | skip
    · refine ob_same h fun i _ h => ?_
      split at h
      · exact ob_same h fun ie _ h => hf _ _ h
      · exact h.elim
    · rename_i e
      cases e
      exact gen h
  case pick c x y =>
    refine ob_mono h (hk c (by simp [opds])) fun v _ h => ?_
    split at h
    · refine ob_mono h (fun v hv => ?_) fun v _ h => hf _ _ h
      split at hv
      · rw [if_pos ‹_›]; exact hk x (by simp [opds]) _ hv
      · rw [if_neg ‹_›]; exact hk y (by simp [opds]) _ hv
    · exact h.elim
  case alloc t => exact ob_same h fun i _ h => ob_same h fun p _ h => hf _ _ h
  case box t x => exact ob_same h fun i _ h => ob_mono h (hk x (by simp [opds])) fun v _ h => ⟨h.1, ob_same h.2 fun p _ h => hf _ _ h⟩
  case build t ps =>
    refine ob_same h fun i _ h => ?_
    split at h
    · exact ob_mono h (fun v hv => evs_kn hk hv) fun vs _ h => ob_same h fun cs _ h => ⟨h.1, hf _ _ h.2⟩
    · exact h.elim
  case buildSlice t len ps =>
    refine ob_same h fun i _ h => ?_
    split at h
    · exact ob_same h fun ie _ h => ob_mono h (fun v hv => litCells_kn hk hv) fun vs _ h => ⟨h.1, h.2.1, h.2.2.1, hf _ _ h.2.2.2⟩
    · exact h.elim
  case load t x =>
    refine ob_same h fun i _ h => ob_mono h (hk x (by simp [opds])) fun v _ h => ?_
    split at h
    · exact ob_same h fun b _ h => ob_same h fun v _ h => hf _ _ h
    · exact ob_same h fun v _ h => hf _ _ h
    · exact h.elim
  case store t x y =>
    refine ob_same h fun i _ h => ob_mono h (hk x (by simp [opds])) fun v _ h => ob_mono h (hk y (by simp [opds])) fun v _ h => ?_
    split at h
    · refine ob_same h fun b _ h => ⟨h.1, h.2.1, h.2.2.1, h.2.2.2.1, ?_⟩
      have hd : dst = none := h.2.2.2.1
      subst hd
      exact hf (.v undef) _ h.2.2.2.2
    · exact h.elim
  case nilCheck x =>
    refine ob_mono h (hk x (by simp [opds])) fun v _ h => ?_
    split at h <;> first | exact hf _ _ h | exact h.elim
  case binOp op t x y t' =>
    refine ob_mono h (hk x (by simp [opds])) fun u _ h => ob_mono h (hk y (by simp [opds])) fun v _ h => ?_
    split at h
    · exact ob_same h fun i _ h => ⟨h.1, ob_same h.2 fun z _ h => hf _ _ h⟩
    · exact ob_same h fun z _ h => hf _ _ h
    · exact ob_same h fun i _ h => ob_same h fun ks _ h => ob_same h fun r _ h => ob_same h fun z _ h => hf _ _ h
    · exact h.elim
  case unOp op t x =>
    refine ob_mono h (hk x (by simp [opds])) fun v _ h => ?_
    split at h
    · exact ob_same h fun z _ h => hf _ _ h
    · exact h.elim
  case fieldAddr t x f =>
    refine ob_same h fun i _ h => ob_same h fun p _ h => ?_
    obtain ⟨off, t'⟩ := p
    refine ob_same h fun it _ h => ob_mono h (hk x (by simp [opds])) fun v _ h => ?_
    split at h <;> first | exact hf _ _ h | exact h.elim
  case field t x f =>
    refine ob_same h fun i _ h => ob_same h fun p _ h => ?_
    obtain ⟨off, t'⟩ := p
    refine ob_same h fun it _ h => ob_mono h (hk x (by simp [opds])) fun v _ h => ?_
    split at h
    · exact ob_same h fun z _ h => hf _ _ h
    · exact h.elim
  case indexAddr t x y =>
    refine ob_same h fun i _ h => ob_mono h (hk x (by simp [opds])) fun u _ h => ob_mono h (hk y (by simp [opds])) fun v _ h => ?_
    split at h
    · exact ob_same h fun ie _ h => ⟨h.1, hf _ _ h.2⟩
    · exact ob_same h fun ie _ h => ob_same h fun b _ h => ⟨h.1, hf _ _ h.2⟩
    · exact ob_same h fun ie _ h => ⟨h.1, hf _ _ h.2⟩
    · exact h.elim
  case index t x y =>
    refine ob_same h fun i _ h => ob_mono h (hk x (by simp [opds])) fun u _ h => ob_mono h (hk y (by simp [opds])) fun v _ h => ?_
    split at h
    · exact ⟨h.1, hf _ _ h.2⟩
    · exact ob_same h fun ie _ h => ⟨h.1, ob_same h.2 fun z _ h => hf _ _ h⟩
    · exact h.elim
  case extract x j =>
    refine ob_mono h (hk x (by simp [opds])) fun v _ h => ?_
    split at h
    · exact ob_same h fun z _ h => hf _ _ h
    · exact h.elim
  case slice t x lo hi mx =>
    cases mx with
    | some m => exact h.elim
    | none =>
      have e1 : ∀ {d l}, bnd ⟨N, T, L2⟩ lo d = some l → bnd ⟨N2, T2, L2⟩ lo d = some l := fun h => bnd_kn (fun y hy => hk y (by simp [opds] at hy ⊢; exact .inr (.inl hy))) h
      have e2 : ∀ {d l}, bnd ⟨N, T, L2⟩ hi d = some l → bnd ⟨N2, T2, L2⟩ hi d = some l := fun h => bnd_kn (fun y hy => hk y (by simp [opds] at hy ⊢; exact .inr (.inr hy))) h
      refine ob_same h fun i _ h => ob_mono h (hk x (by simp [opds])) fun v _ h => ?_
      split at h
      · exact ob_mono h (fun _ h => e1 h) fun l _ h => ob_mono h (fun _ h => e2 h) fun l _ h => ⟨h.1, hf _ _ h.2⟩
      · exact ob_same h fun ie _ h => ob_mono h (fun _ h => e1 h) fun l _ h => ob_mono h (fun _ h => e2 h) fun l _ h => ⟨h.1, hf _ _ h.2⟩
      · exact ob_same h fun ie _ h => ob_same h fun b _ h => ob_mono h (fun _ h => e1 h) fun l _ h => ob_mono h (fun _ h => e2 h) fun l _ h => ⟨h.1, hf _ _ h.2⟩
      · exact ob_same h fun ie _ h => ob_mono h (fun _ h => e1 h) fun l _ h => ob_mono h (fun _ h => e2 h) fun l _ h => ⟨h.1, hf _ _ h.2⟩
      · exact h.elim
  case convert s d x =>
    refine ob_same h fun is _ h => ob_same h fun id _ h => ob_mono h (hk x (by simp [opds])) fun v _ h => ?_
    split at h
    · exact hf _ _ h
    · exact ob_same h fun n _ h => hf _ _ h
    · split at h
      · exact ob_same h fun ie _ h => ⟨h.1, ob_same h.2 fun p _ h => ob_same h fun bs _ h => hf _ _ h⟩
      · exact hf _ _ h
      · exact ob_same h fun ie _ h => ⟨h.1, hf _ _ h.2⟩
      · exact h.elim
  case call c =>
    simp only [stepOp] at h ⊢
    split at h
    · rename_i b hb
      exact ob_mono h (fun v hv => evs_kn (fun x hx => hk x (by simp [opds]; exact .inr (by simpa using hx))) hv) fun v _ h => stepBuiltin_kn h rfl hf
    · exact h.elim
  all_goals exact h.elim
theorem srcOf_le {L L2 : List (Option Blk)} (hL : LE L L2) {u e : TypeId} {size : Nat} {x : IV} {r : Nat × List IV} (h : srcOf L TT u e size x = some r) : srcOf L2 TT u e size x = some r := by
  unfold srcOf at h ⊢
  split at h
  · cases h
  · split at h <;> first
      | exact h
      | (split at h
         · rename_i he
           rw [if_pos he]
           split at h
           · rename_i b hb
             obtain ⟨f, hf⟩ := hL _ _ _ hb
             rw [hf]; exact h
           · cases h
         · cases h)
/-- an operation that leaves the blocks as they are, where there are more blocks -/
theorem stepOp_rd (h : stepOp TT o σ K) (hr : isRd o.op = true) (hL : LE σ.L σ2.L) (hk : ∀ x ∈ opds o.op, Kn σ σ2 x) (hf : ∀ v, fin o σ v σ.L K → fin o σ2 v σ2.L K2) : stepOp TT o σ2 K2 := by
  obtain ⟨N, T, L⟩ := σ
  obtain ⟨N2, T2, L2⟩ := σ2
  obtain ⟨dst, op, ty, pos, af, gd⟩ := o
  cases op
  case move x => exact ob_mono h (hk x (by simp [opds])) fun v _ h => hf _ h
  case assign x =>
    simp only [stepOp] at h ⊢
    split at h <;> first
      | exact h.elim
      | (rename_i e; cases e; done)
      | skip
    · rename_i e
      cases e
      cases hr
    · rename_i e
      cases e
      exact ob_mono h (hk x (by simp [opds])) fun v _ h => hf _ h
  case pick c x y =>
    refine ob_mono h (hk c (by simp [opds])) fun v _ h => ?_
    split at h
    · refine ob_mono h (fun v hv => ?_) fun v _ h => hf _ h
      split at hv
      · rw [if_pos ‹_›]; exact hk x (by simp [opds]) _ hv
      · rw [if_neg ‹_›]; exact hk y (by simp [opds]) _ hv
    · exact h.elim
  case build t ps =>
    refine ob_same h fun i _ h => ?_
    split at h
    · exact ob_mono h (fun v hv => evs_kn hk hv) fun vs _ h => ob_same h fun cs _ h => ⟨h.1, hf _ h.2⟩
    · exact h.elim
  case load t x =>
    refine ob_same h fun i _ h => ob_mono h (hk x (by simp [opds])) fun v _ h => ?_
    split at h
    · obtain ⟨b, hb, h⟩ := ob_elim h
      obtain ⟨f, hb2⟩ := hL _ _ _ hb
      simp only [hb2, ob_some]
      exact ob_same h fun v _ h => hf _ h
    · exact ob_same h fun v _ h => hf _ h
    · exact h.elim
  case nilCheck x =>
    refine ob_mono h (hk x (by simp [opds])) fun v _ h => ?_
    split at h <;> first | exact hf _ h | exact h.elim
  case binOp op t x y t' =>
    refine ob_mono h (hk x (by simp [opds])) fun u _ h => ob_mono h (hk y (by simp [opds])) fun v _ h => ?_
    split at h
    · exact ob_same h fun i _ h => ⟨h.1, ob_same h.2 fun z _ h => hf _ h⟩
    · exact ob_same h fun z _ h => hf _ h
    · exact ob_same h fun i _ h => ob_same h fun ks _ h => ob_same h fun r _ h => ob_same h fun z _ h => hf _ h
    · exact h.elim
  case unOp op t x =>
    refine ob_mono h (hk x (by simp [opds])) fun v _ h => ?_
    split at h
    · exact ob_same h fun z _ h => hf _ h
    · exact h.elim
  case fieldAddr t x f =>
    refine ob_same h fun i _ h => ob_same h fun p _ h => ?_
    obtain ⟨off, t'⟩ := p
    refine ob_same h fun it _ h => ob_mono h (hk x (by simp [opds])) fun v _ h => ?_
    split at h <;> first | exact hf _ h | exact h.elim
  case field t x f =>
    refine ob_same h fun i _ h => ob_same h fun p _ h => ?_
    obtain ⟨off, t'⟩ := p
    refine ob_same h fun it _ h => ob_mono h (hk x (by simp [opds])) fun v _ h => ?_
    split at h
    · exact ob_same h fun z _ h => hf _ h
    · exact h.elim
  case indexAddr t x y =>
    refine ob_same h fun i _ h => ob_mono h (hk x (by simp [opds])) fun u _ h => ob_mono h (hk y (by simp [opds])) fun v _ h => ?_
    split at h
    · exact ob_same h fun ie _ h => ⟨h.1, hf _ h.2⟩
    · refine ob_same h fun ie _ h => ?_
      obtain ⟨b, hb, h⟩ := ob_elim h
      obtain ⟨f, hb2⟩ := hL _ _ _ hb
      simp only [hb2, ob_some]
      exact ⟨h.1, hf _ h.2⟩
    · exact ob_same h fun ie _ h => ⟨h.1, hf _ h.2⟩
    · exact h.elim
  case index t x y =>
    refine ob_same h fun i _ h => ob_mono h (hk x (by simp [opds])) fun u _ h => ob_mono h (hk y (by simp [opds])) fun v _ h => ?_
    split at h
    · exact ⟨h.1, hf _ h.2⟩
    · exact ob_same h fun ie _ h => ⟨h.1, ob_same h.2 fun z _ h => hf _ h⟩
    · exact h.elim
  case extract x j =>
    refine ob_mono h (hk x (by simp [opds])) fun v _ h => ?_
    split at h
    · exact ob_same h fun z _ h => hf _ h
    · exact h.elim
  case slice t x lo hi mx =>
    cases mx with
    | some m => exact h.elim
    | none =>
      have e1 : ∀ {d l}, bnd ⟨N, T, L⟩ lo d = some l → bnd ⟨N2, T2, L2⟩ lo d = some l := fun h => bnd_kn (fun y hy => hk y (by simp [opds] at hy ⊢; exact .inr (.inl hy))) h
      have e2 : ∀ {d l}, bnd ⟨N, T, L⟩ hi d = some l → bnd ⟨N2, T2, L2⟩ hi d = some l := fun h => bnd_kn (fun y hy => hk y (by simp [opds] at hy ⊢; exact .inr (.inr hy))) h
      refine ob_same h fun i _ h => ob_mono h (hk x (by simp [opds])) fun v _ h => ?_
      split at h
      · exact ob_mono h (fun _ h => e1 h) fun l _ h => ob_mono h (fun _ h => e2 h) fun l _ h => ⟨h.1, hf _ h.2⟩
      · exact ob_same h fun ie _ h => ob_mono h (fun _ h => e1 h) fun l _ h => ob_mono h (fun _ h => e2 h) fun l _ h => ⟨h.1, hf _ h.2⟩
      · refine ob_same h fun ie _ h => ?_
        obtain ⟨b, hb, h⟩ := ob_elim h
        obtain ⟨f, hb2⟩ := hL _ _ _ hb
        simp only [hb2, ob_some]
        exact ob_mono h (fun _ h => e1 h) fun l _ h => ob_mono h (fun _ h => e2 h) fun l _ h => ⟨h.1, hf _ h.2⟩
      · exact ob_same h fun ie _ h => ob_mono h (fun _ h => e1 h) fun l _ h => ob_mono h (fun _ h => e2 h) fun l _ h => ⟨h.1, hf _ h.2⟩
      · exact h.elim
  case convert s d x =>
    refine ob_same h fun is _ h => ob_same h fun id _ h => ob_mono h (hk x (by simp [opds])) fun v _ h => ?_
    split at h
    · exact hf _ h
    · exact ob_same h fun n _ h => hf _ h
    · split at h
      · exact ob_same h fun ie _ h => ⟨h.1, ob_mono h.2 (fun p hp => srcOf_le hL hp) fun p _ h => ob_same h fun bs _ h => hf _ h⟩
      · exact hf _ h
      · exact ob_same h fun ie _ h => ⟨h.1, hf _ h.2⟩
      · exact h.elim
  case call c =>
    simp only [stepOp] at h ⊢
    simp only [isRd] at hr
    split at h
    · rename_i b hb
      rw [hb] at hr
      refine ob_mono h (fun v hv => evs_kn (fun x hx => hk x (by simp [opds]; exact .inr (by simpa using hx))) hv) fun v _ h => ?_
      cases b <;> first | (cases hr; done) | skip
      all_goals
        unfold stepBuiltin at h ⊢
        split at h <;> first
          | exact h.elim
          | exact hf _ h
          | exact ob_same h fun t _ h => ob_same h fun i _ h => ⟨h.1, hf _ h.2⟩
          | exact ob_same h fun t _ h => hf _ h
          | (rename_i e _; cases e; done)
          | (rename_i e; cases e; done)
    · exact h.elim
  all_goals first | exact h.elim | cases hr
end
end Go.Lift
