/- A frame's ideal state, and how the machine's slots and memory lie to it. -/
import Derived.Test.YthekbbgpmiogdaaLZA
namespace Go.Lift
open Go Go.RowKit

structure Blk where
  row : Bool
  t : TypeId
  n : Nat
  fl : Bool
  cs : List IV
  ver : Nat
  frz : Bool
  deriving Inhabited
/-- N: how many slots; T: what is known of slots, the latest first; L: the blocks that the frame has. -/
structure St where
  N : Nat
  T : List (Nat × IV)
  L : List (Option Blk)
def lk : List (Nat × IV) → Nat → Option IV
  | [], _ => none
  | (t, x) :: r, s => if s = t then some x else lk r s
structure Plc where
  v : Value
  sz : Nat
structure Cx where
  pl : Nat → Nat → Option Plc
  R : Nat → Prop
/-- what stands through a whole call: the world at its beginning, what is only read, the cells that it may write, the places of the variables that it was handed -/
structure Fx where
  w0 : World
  R0 : Nat → Prop
  os : List OwnR
  par : Nat → Option Plc

/-- a slice of the row at p: its elements o .. o + n -/
def SLr (p : Plc) (o n : Nat) (y : Value) : Prop :=
  (p.v = .slice none 0 0 ∧ (∃ a, y = .slice a 0 0) ∧ o = 0 ∧ n = 0) ∨
  ∃ g m cap ad, p.v = .slice (some ⟨g, 0, none⟩) m cap ∧ y = .slice (some ad) n (cap - o) ∧ o + n ≤ cap ∧ ((0 < n ∨ o = 0) → ad = ⟨g, o * p.sz, none⟩)
def PTr (p : Plc) (o : Nat) (y : Value) : Prop :=
  ∃ g d, (p.v = .pointer (some ⟨g, d, none⟩) ∨ (d = 0 ∧ ∃ m cap, p.v = .slice (some ⟨g, 0, none⟩) m cap)) ∧ y = .pointer (some ⟨g, d + o, none⟩)

mutual
def VX (cx : Cx) (w : World) : IV → Value → Prop
  | .v x, y => y = x
  | .emp, y => ∃ a, y = .slice a 0 0
  | .tr n cs, y => TR cx.R w (.tr n cs) y
  | .rp cs o, y => ∃ b d, y = .pointer (some ⟨b, d + o, none⟩) ∧ cx.R b ∧ TRm cx.R w cs b d
  | .sl k ver o n, y => ∃ p, cx.pl k ver = some p ∧ SLr p o n y
  | .ptr k ver o, y => ∃ p, cx.pl k ver = some p ∧ PTr p o y
  | .agg cs, y => ∃ arr, y = .agg arr ∧ VXl cx w cs arr.toList ∧ ∀ z ∈ arr.toList, z.oneCell' = true
  | .tup cs, y => ∃ arr, y = .tuple arr ∧ VXl cx w cs arr.toList
  | .fn f caps, y => ∃ arr, y = .func f #[] arr ∧ VXl cx w caps arr.toList
  | .own _ _ _ _, _ => False
  | .obj _, _ => False
  | .ago _, _ => False
  | .gone, _ => False
def VXl (cx : Cx) (w : World) : List IV → List Value → Prop
  | [], ys => ys = []
  | x :: xs, ys => ∃ y ys', ys = y :: ys' ∧ VX cx w x y ∧ VXl cx w xs ys'
end

/-- cx' knows all that cx knows -/
structure Cx.le (cx cx' : Cx) : Prop where
  pl : ∀ k ver p, cx.pl k ver = some p → cx'.pl k ver = some p
  R : ∀ b, cx.R b → cx'.R b
theorem Cx.le_refl (cx : Cx) : cx.le cx := ⟨fun _ _ _ h => h, fun _ h => h⟩
theorem Cx.le_trans {a b c : Cx} (h : a.le b) (k : b.le c) : a.le c := ⟨fun _ _ _ x => k.pl _ _ _ (h.pl _ _ _ x), fun _ x => k.R _ (h.R _ x)⟩

mutual
theorem VX.mono {cx cx' : Cx} {w w' : World} (hc : cx.le cx') (hw : HeapEq cx.R w w') : ∀ (x : IV) (y : Value), VX cx w x y → VX cx' w' x y
  | .v x, y, h => h
  | .emp, y, h => h
  | .tr n cs, y, h => by unfold VX at h ⊢; exact TR.mono hc.R hw _ _ h
  | .rp cs o, y, h => by
    unfold VX at h ⊢
    obtain ⟨b, d, h1, h2, h3⟩ := h
    exact ⟨b, d, h1, hc.R b h2, TRm.mono hc.R hw _ _ _ h2 h3⟩
  | .sl k ver o n, y, h => by unfold VX at h ⊢; obtain ⟨p, h1, h2⟩ := h; exact ⟨p, hc.pl _ _ _ h1, h2⟩
  | .ptr k ver o, y, h => by unfold VX at h ⊢; obtain ⟨p, h1, h2⟩ := h; exact ⟨p, hc.pl _ _ _ h1, h2⟩
  | .agg cs, y, h => by unfold VX at h ⊢; obtain ⟨arr, h1, h2, h3⟩ := h; exact ⟨arr, h1, VXl.mono hc hw _ _ h2, h3⟩
  | .tup cs, y, h => by unfold VX at h ⊢; obtain ⟨arr, h1, h2⟩ := h; exact ⟨arr, h1, VXl.mono hc hw _ _ h2⟩
  | .fn f cs, y, h => by unfold VX at h ⊢; obtain ⟨arr, h1, h2⟩ := h; exact ⟨arr, h1, VXl.mono hc hw _ _ h2⟩
  | .own _ _ _ _, y, h => by unfold VX at h; exact h.elim
  | .obj _, y, h => by unfold VX at h; exact h.elim
  | .ago _, y, h => by unfold VX at h; exact h.elim
  | .gone, y, h => by unfold VX at h; exact h.elim
theorem VXl.mono {cx cx' : Cx} {w w' : World} (hc : cx.le cx') (hw : HeapEq cx.R w w') : ∀ (xs : List IV) (ys : List Value), VXl cx w xs ys → VXl cx' w' xs ys
  | [], ys, h => by unfold VXl at h ⊢; exact h
  | x :: xs, ys, h => by
    unfold VXl at h ⊢
    obtain ⟨y, ys', h1, h2, h3⟩ := h
    exact ⟨y, ys', h1, VX.mono hc hw _ _ h2, VXl.mono hc hw _ _ h3⟩
end

theorem VXl.length {cx : Cx} {w : World} : ∀ {xs : List IV} {ys : List Value}, VXl cx w xs ys → ys.length = xs.length
  | [], ys, h => by unfold VXl at h; subst h; rfl
  | x :: xs, ys, h => by unfold VXl at h; obtain ⟨y, ys', rfl, _, h4⟩ := h; simp [VXl.length h4]
theorem VXl.get {cx : Cx} {w : World} : ∀ {xs : List IV} {ys : List Value}, VXl cx w xs ys → ∀ (i : Nat) (x : IV), xs[i]? = some x → ∃ y, ys[i]? = some y ∧ VX cx w x y
  | [], _, _, _, _, hx => by simp at hx
  | z :: zs, ys, h, i, x, hx => by
    unfold VXl at h
    obtain ⟨y, ys', rfl, h2, h4⟩ := h
    cases i with
    | zero => simp at hx; subst hx; exact ⟨y, rfl, h2⟩
    | succ i => simp at hx; exact VXl.get h4 i x hx
theorem VXl.of_get {cx : Cx} {w : World} : ∀ {xs : List IV} {ys : List Value}, ys.length = xs.length → (∀ (i : Nat) (x : IV) (y : Value), xs[i]? = some x → ys[i]? = some y → VX cx w x y) → VXl cx w xs ys
  | [], ys, hl, _ => by unfold VXl; exact List.eq_nil_of_length_eq_zero hl
  | z :: zs, [], hl, _ => by simp at hl
  | z :: zs, y :: ys, hl, h => by
    unfold VXl
    refine ⟨y, ys, rfl, h 0 z y rfl rfl, VXl.of_get (by simpa using hl) (fun (i : Nat) (x : IV) (y' : Value) (hx : zs[i]? = some x) (hy : ys[i]? = some y') => ?_)⟩
    exact h (i + 1) x y' (by simpa using hx) (by simpa using hy)
theorem VXl.nil {cx : Cx} {w : World} : VXl cx w [] [] := by unfold VXl; rfl
theorem VXl.cons {cx : Cx} {w : World} {x : IV} {y : Value} {xs : List IV} {ys : List Value} (h : VX cx w x y) (h' : VXl cx w xs ys) : VXl cx w (x :: xs) (y :: ys) := by
  unfold VXl; exact ⟨y, ys, rfl, h, h'⟩

mutual
/-- a tree is a value of a frame, too -/
theorem TR.vx {cx : Cx} {w : World} : ∀ (x : IV) (y : Value), TR cx.R w x y → VX cx w x y
  | .v x, y, h => h
  | .emp, y, h => h
  | .tr n cs, y, h => h
  | .agg cs, y, h => by
    unfold TR at h; unfold VX
    obtain ⟨arr, h1, h2⟩ := h
    refine ⟨arr, h1, TRl.vx cs arr.toList h2, ?_⟩
    intro z hz
    obtain ⟨i, hi, he⟩ := List.getElem_of_mem hz
    have hi' : i < cs.length := by rw [← h2.length]; exact hi
    obtain ⟨y', g1, _, g3⟩ := h2.get i cs[i] (List.getElem?_eq_getElem hi')
    rw [List.getElem?_eq_getElem hi, he] at g1
    cases g1; exact g3
  | .rp _ _, y, h => by unfold TR at h; exact h.elim
  | .sl _ _ _ _, y, h => by unfold TR at h; exact h.elim
  | .ptr _ _ _, y, h => by unfold TR at h; exact h.elim
  | .tup _, y, h => by unfold TR at h; exact h.elim
  | .fn _ _, y, h => by unfold TR at h; exact h.elim
  | .own _ _ _ _, y, h => by unfold TR at h; exact h.elim
  | .obj _, y, h => by unfold TR at h; exact h.elim
  | .ago _, y, h => by unfold TR at h; exact h.elim
  | .gone, y, h => by unfold TR at h; exact h.elim
theorem TRl.vx {cx : Cx} {w : World} : ∀ (xs : List IV) (ys : List Value), TRl cx.R w xs ys → VXl cx w xs ys
  | [], ys, h => by unfold TRl at h; unfold VXl; exact h
  | x :: xs, ys, h => by
    unfold TRl at h; unfold VXl
    obtain ⟨y, ys', h1, ⟨h2, _⟩, h4⟩ := h
    exact ⟨y, ys', h1, TR.vx x y h2, TRl.vx xs ys' h4⟩
end

/-- where a block's cells are -/
def Blk.rng (b : Blk) (p : Plc) : List OwnR :=
  match p.v with
  | .slice (some a) _ _ => [.blk a.block]
  | .pointer (some a) => [.rng a.block a.off b.cs.length]
  | _ => []

structure RowOk (P : Program) (cx : Cx) (w : World) (p : Plc) (b : Blk) : Prop where
  ex : ∃ xs, w.ownsRow 0 b.t p.sz p.v b.n xs ∧ TRl cx.R w b.cs xs
  info : ∃ i, P.info? b.t = some i ∧ i.size = p.sz ∧ 0 < p.sz
  flat : b.fl = true → ∀ x ∈ b.cs, ∃ y, x = .v y
structure ObjOk (cx : Cx) (w : World) (p : Plc) (b : Blk) : Prop where
  ex : ∃ g d arr T, p.v = .pointer (some ⟨g, d, none⟩) ∧ w.heap[g]? = some (.cells arr T (0, 0)) ∧ d + b.cs.length ≤ arr.size ∧
    ∀ (i : Nat) (x : IV), b.cs[i]? = some x → ∃ y, arr[d + i]? = some y ∧ VX cx w x y ∧ y.oneCell' = true
def BlkOk (P : Program) (cx : Cx) (w : World) (p : Plc) (b : Blk) : Prop := (b.row = true ∧ RowOk P cx w p b) ∨ (b.row = false ∧ b.frz = false ∧ ObjOk cx w p b)

/-- block k of σ is there, as b, at p -/
def At (cx : Cx) (σ : St) (k : Nat) (b : Blk) (p : Plc) : Prop := σ.L[k]? = some (some b) ∧ cx.pl k b.ver = some p

structure Mem (P : Program) (fx : Fx) (cx : Cx) (σ : St) (w : World) : Prop where
  blk : ∀ k b, σ.L[k]? = some (some b) → ∃ p, cx.pl k b.ver = some p ∧ BlkOk P cx w p b
  plok : ∀ k ver p, cx.pl k ver = some p → k < σ.L.length ∧ ∀ b, σ.L[k]? = some (some b) → ver ≤ b.ver
  dis : ∀ k k' b b' p p', At cx σ k b p → At cx σ k' b' p' → k ≠ k' → ∀ x ∈ b.rng p, ∀ y ∈ b'.rng p', x.apart y
  nor : ∀ k b p, At cx σ k b p → ∀ x ∈ b.rng p, ∀ bb o, x.has bb o → (b.frz = false → ¬ cx.R bb) ∧ (b.frz = true → cx.R bb)
  wit : ∀ k b p, At cx σ k b p → ∀ x ∈ b.rng p, ∀ bb o, x.has bb o → Owns fx.os bb o ∨ fx.w0.heap.size ≤ bb
  rlt : ∀ b, cx.R b → b < w.heap.size
  rin : ∀ b, cx.R b → fx.R0 b ∨ (∃ o, Owns fx.os b o) ∨ fx.w0.heap.size ≤ b
  r0 : ∀ b, fx.R0 b → cx.R b
  fr : Fr fx.w0 w fx.os
  par : ∀ k p, fx.par k = some p → cx.pl k 0 = some p

structure Tmps (cx : Cx) (σ : St) (a : Act) (w : World) : Prop where
  dfr : a.defers = []
  len : a.tmps.size = σ.N
  tmp : ∀ (t : Nat) (x : IV), lk σ.T t = some x → ∃ y, a.tmps[t]? = some y ∧ VX cx w x y

structure Sim (P : Program) (fx : Fx) (cx : Cx) (σ : St) (a : Act) (w : World) : Prop where
  m : Mem P fx cx σ w
  s : Tmps cx σ a w

def St.put (σ : St) (d : Nat) (x : IV) : St := { σ with T := (d, x) :: σ.T }

theorem Tmps.put {cx : Cx} {σ : St} {a : Act} {w : World} (h : Tmps cx σ a w) (d : Nat) (hd : d < σ.N) (x : IV) (y : Value) (hx : VX cx w x y) : Tmps cx (σ.put d x) (a.put (some d) y) w := by
  refine ⟨h.dfr, by simp [Act.put, St.put, h.len], fun t z hz => ?_⟩
  simp only [St.put, lk] at hz
  simp only [Act.put, Array.getElem?_setIfInBounds]
  split at hz
  · rename_i e
    subst e
    rw [if_pos rfl, if_pos (by rw [h.len]; exact hd)]
    cases hz; exact ⟨y, rfl, hx⟩
  · rename_i e
    rw [if_neg (fun e' => e e'.symm)]
    exact h.tmp t z hz
theorem Tmps.mono {cx cx' : Cx} {σ σ' : St} {a : Act} {w w' : World} (h : Tmps cx σ a w) (hT : ∀ t x, lk σ'.T t = some x → lk σ.T t = some x) (hN : σ'.N = σ.N) (hc : cx.le cx') (hw : HeapEq cx.R w w') : Tmps cx' σ' a w' :=
  ⟨h.dfr, by rw [hN]; exact h.len, fun t x hx => by obtain ⟨y, h1, h2⟩ := h.tmp t x (hT t x hx); exact ⟨y, h1, VX.mono hc hw _ _ h2⟩⟩

theorem At.uniq {cx : Cx} {σ : St} {k : Nat} {b b' : Blk} {p p' : Plc} (h : At cx σ k b p) (h' : At cx σ k b' p') : b = b' ∧ p = p' := by
  have e : b = b' := by have := h.1.symm.trans h'.1; simpa using this
  subst e
  exact ⟨rfl, by have := h.2.symm.trans h'.2; simpa using this⟩
theorem Mem.at {P : Program} {fx : Fx} {cx : Cx} {σ : St} {w : World} (h : Mem P fx cx σ w) {k : Nat} {b : Blk} (hk : σ.L[k]? = some (some b)) : ∃ p, At cx σ k b p ∧ BlkOk P cx w p b := by
  obtain ⟨p, h1, h2⟩ := h.blk k b hk
  exact ⟨p, ⟨hk, h1⟩, h2⟩

theorem RowOk.v {P : Program} {cx : Cx} {w : World} {p : Plc} {b : Blk} (h : RowOk P cx w p b) : (p.v = .slice none 0 0 ∧ b.n = 0 ∧ b.cs = []) ∨
    ∃ g cap cur, p.v = .slice (some ⟨g, 0, none⟩) b.n cap ∧ w.heap[g]? = some (.cells cur b.t (0, 0)) ∧ b.n ≤ cap ∧ cap ≤ maxLen ∧ cur.size = cap * p.sz ∧ TRl cx.R w b.cs (cur.toList.take (b.n * p.sz)) ∧ b.cs.length = b.n * p.sz := by
  obtain ⟨xs, ⟨h1, h2⟩, h3⟩ := h.ex
  have hl := h3.length
  rcases h2 with ⟨h2, hn⟩ | ⟨g, cap, cur, h4, _, h5, h6, h7, h8, h9⟩
  · refine .inl ⟨h2, hn, List.eq_nil_of_length_eq_zero ?_⟩
    rw [← hl, h1, hn]; simp
  · refine .inr ⟨g, cap, cur, h4, h5, h6, h7, h8, by rw [h9]; exact h3, ?_⟩
    rw [← hl, h1]
theorem RowOk.len {P : Program} {cx : Cx} {w : World} {p : Plc} {b : Blk} (h : RowOk P cx w p b) : b.cs.length = b.n * p.sz := by
  rcases h.v with ⟨_, hn, hc⟩ | ⟨_, _, _, _, _, _, _, _, _, hl⟩
  · rw [hn, hc]; simp
  · exact hl

def Keeps (w w' : World) : OwnR → Prop
  | .blk g => w'.heap[g]? = w.heap[g]?
  | .rng g d len => ∀ arr T fr, w.heap[g]? = some (.cells arr T fr) → ∃ arr', w'.heap[g]? = some (.cells arr' T fr) ∧ arr'.size = arr.size ∧ ∀ i, i < len → arr'[d + i]? = arr[d + i]?
theorem Fr.keeps {w w' : World} {os : List OwnR} (h : Fr w w' os) {x : OwnR} (ha : ∀ b o, x.has b o → ¬ Owns os b o) (hb : x.b < w.heap.size) : Keeps w w' x := by
  cases x with
  | blk g => exact h.hblk g hb fun o => ha g o rfl
  | rng g d len =>
    intro arr T fr hg
    obtain ⟨arr', h1, h2, h3⟩ := h.hcel g arr T fr hg
    exact ⟨arr', h1, h2, fun i hi => h3 _ (ha g (d + i) ⟨rfl, by omega, by omega⟩)⟩
/-- a block that lies as it did is as it was -/
theorem BlkOk.mono {P : Program} {cx cx' : Cx} {w w' : World} {p : Plc} {b : Blk} (h : BlkOk P cx w p b) (hc : cx.le cx') (hR : HeapEq cx.R w w')
    (hw : ∀ x ∈ b.rng p, Keeps w w' x) : BlkOk P cx' w' p b := by
  rcases h with ⟨hr, h⟩ | ⟨hr, hf, h⟩
  · refine .inl ⟨hr, ?_, h.info, h.flat⟩
    obtain ⟨xs, ⟨h1, h2⟩, h3⟩ := h.ex
    refine ⟨xs, ⟨h1, h2.imp id ?_⟩, TRl.mono hc.R hR _ _ h3⟩
    rintro ⟨g, cap, cur, h4, h0, h5, h6⟩
    refine ⟨g, cap, cur, h4, h0, ?_, h6⟩
    rw [show w'.heap[g]? = w.heap[g]? from hw (.blk g) (by simp [Blk.rng, h4])]
    exact h5
  · refine .inr ⟨hr, hf, ?_⟩
    obtain ⟨g, d, arr, T, h1, h2, h3, h4⟩ := h.ex
    obtain ⟨arr', k1, k2, k3⟩ := hw (.rng g d b.cs.length) (by simp [Blk.rng, h1]) arr T (0, 0) h2
    refine ⟨g, d, arr', T, h1, k1, by rw [k2]; exact h3, fun i x hx => ?_⟩
    obtain ⟨y, g1, g2, g3⟩ := h4 i x hx
    have hi : i < b.cs.length := (List.getElem?_eq_some_iff.1 hx).1
    exact ⟨y, by rw [k3 i hi]; exact g1, VX.mono hc hR _ _ g2, g3⟩

theorem BlkOk.lt {P : Program} {cx : Cx} {w : World} {p : Plc} {b : Blk} (h : BlkOk P cx w p b) : ∀ x ∈ b.rng p, x.b < w.heap.size := by
  intro x hx
  rcases h with ⟨_, h⟩ | ⟨_, _, h⟩
  · rcases h.v with ⟨h1, _⟩ | ⟨g, cap, cur, h1, h2, _⟩
    · simp [Blk.rng, h1] at hx
    · simp [Blk.rng, h1] at hx; subst hx; exact lt_of_heap h2
  · obtain ⟨g, d, arr, T, h1, h2, _⟩ := h.ex
    simp [Blk.rng, h1] at hx; subst hx; exact lt_of_heap h2
theorem Mem.lt {P : Program} {fx : Fx} {cx : Cx} {σ : St} {w : World} (h : Mem P fx cx σ w) {k : Nat} {b : Blk} {p : Plc} (hk : At cx σ k b p) : ∀ x ∈ b.rng p, ∀ bb o, x.has bb o → bb < w.heap.size := by
  intro x hx bb o hh
  obtain ⟨p', h1, h2⟩ := h.blk k b hk.1
  have : p = p' := by have := hk.2.symm.trans h1; simpa using this
  subst this
  rw [OwnR.has_b hh]; exact h2.lt x hx

/-- the cells of the blocks that 'ch' names -/
def ChOwn (cx : Cx) (σ : St) (ch : Nat → Prop) (bb o : Nat) : Prop := ∃ k b p x, ch k ∧ At cx σ k b p ∧ x ∈ b.rng p ∧ x.has bb o

/-- WHAT A STEP DOES TO MEMORY: the blocks that 'ch' names turn; all others stay. -/
theorem Mem.step {P : Program} {fx : Fx} {cx cx' : Cx} {σ σ' : St} {w w' : World} {os1 : List OwnR} (h : Mem P fx cx σ w) (ch : Nat → Prop) (hf : Fr w w' os1)
    (h2 : ∀ bb o, Owns os1 bb o → ∃ k b p x, ch k ∧ At cx σ k b p ∧ b.frz = false ∧ x ∈ b.rng p ∧ x.has bb o)
    (hc : cx.le cx')
    (h3 : ∀ bb, cx'.R bb → bb < w'.heap.size ∧ (cx.R bb ∨ (∃ k b p, ch k ∧ At cx σ k b p ∧ OwnR.blk bb ∈ b.rng p) ∨ w.heap.size ≤ bb))
    (h4 : ∀ k b, ¬ ch k → σ'.L[k]? = some (some b) → σ.L[k]? = some (some b))
    (h5 : ∀ k b, ch k → σ'.L[k]? = some (some b) → ∃ p, cx'.pl k b.ver = some p ∧ BlkOk P cx' w' p b ∧ ∀ x ∈ b.rng p, ∀ bb o, x.has bb o →
      (ChOwn cx σ ch bb o ∨ w.heap.size ≤ bb) ∧ (b.frz = false → ¬ cx'.R bb) ∧ (b.frz = true → cx'.R bb))
    (h6 : ∀ k k' b b' p p', ch k → ch k' → At cx' σ' k b p → At cx' σ' k' b' p' → k ≠ k' → ∀ x ∈ b.rng p, ∀ y ∈ b'.rng p', x.apart y)
    (h7 : ∀ k ver p, cx'.pl k ver = some p → k < σ'.L.length ∧ ∀ b, σ'.L[k]? = some (some b) → ver ≤ b.ver) : Mem P fx cx' σ' w' := by
  have hRn : ∀ bb o, cx.R bb → ¬ Owns os1 bb o := fun bb o hb ho => by
    obtain ⟨k, b, p, x, _, g2, g3, g4, g5⟩ := h2 bb o ho
    exact (h.nor k b p g2 x g4 bb o g5).1 g3 hb
  have hR : HeapEq cx.R w w' := fun bb hb => hf.hblk bb (h.rlt bb hb) fun o => hRn bb o hb
  -- an unchanged block, as it was and is
  have hun : ∀ k b, ¬ ch k → σ'.L[k]? = some (some b) → ∃ p, At cx σ k b p ∧ cx'.pl k b.ver = some p ∧ BlkOk P cx' w' p b := fun k b hk hb => by
    obtain ⟨p, a1, a2⟩ := h.at (h4 k b hk hb)
    refine ⟨p, a1, hc.pl _ _ _ a1.2, a2.mono hc hR fun x hx => hf.keeps (fun bb o hh ho => ?_) (a2.lt x hx)⟩
    obtain ⟨k', b', p', y, g1, g2, g3, g4, g5⟩ := h2 bb o ho
    exact h.dis k k' b b' p p' a1 g2 (fun e => hk (e ▸ g1)) x hx y g4 bb o hh g5
  have hfrom : ∀ k b p, ch k → At cx' σ' k b p → ∀ x ∈ b.rng p, ∀ bb o, x.has bb o → (ChOwn cx σ ch bb o ∨ w.heap.size ≤ bb) ∧ (b.frz = false → ¬ cx'.R bb) ∧ (b.frz = true → cx'.R bb) := fun k b p hk ha => by
    obtain ⟨p', g1, _, g3⟩ := h5 k b hk ha.1
    have : p = p' := by have := ha.2.symm.trans g1; simpa using this
    subst this; exact g3
  have huf : ∀ k b p, ¬ ch k → At cx' σ' k b p → At cx σ k b p := fun k b p hk ha => by
    obtain ⟨p', g1, g2, _⟩ := hun k b hk ha.1
    have : p = p' := by have := ha.2.symm.trans g2; simpa using this
    subst this; exact g1
  have hcu : ∀ k k' b b' p p', ch k → ¬ ch k' → At cx' σ' k b p → At cx' σ' k' b' p' → ∀ x ∈ b.rng p, ∀ y ∈ b'.rng p', x.apart y := fun k k' b b' p p' hk hk' ha ha' x hx y hy bb o hh hh' => by
    have hu := huf k' b' p' hk' ha'
    rcases (hfrom k b p hk ha x hx bb o hh).1 with ⟨k0, b0, p0, z, g1, g2, g3, g4⟩ | hge
    · exact h.dis k0 k' b0 b' p0 p' g2 hu (fun e => hk' (e ▸ g1)) z g3 y hy bb o g4 hh'
    · have := h.lt hu y hy bb o hh'; omega
  refine ⟨?_, h7, ?_, ?_, ?_, fun bb hb => (h3 bb hb).1, ?_, fun b hb => hc.R b (h.r0 b hb), ?_, fun k p hp => hc.pl _ _ _ (h.par k p hp)⟩
  · intro k b hb
    by_cases hk : ch k
    · obtain ⟨p, g1, g2, _⟩ := h5 k b hk hb; exact ⟨p, g1, g2⟩
    · obtain ⟨p, _, g2, g3⟩ := hun k b hk hb; exact ⟨p, g2, g3⟩
  · intro k k' b b' p p' ha ha' hne
    by_cases hk : ch k <;> by_cases hk' : ch k'
    · exact h6 k k' b b' p p' hk hk' ha ha' hne
    · exact hcu k k' b b' p p' hk hk' ha ha'
    · intro x hx y hy bb o hh hh'
      exact hcu k' k b' b p' p hk' hk ha' ha y hy x hx bb o hh' hh
    · exact h.dis k k' b b' p p' (huf k b p hk ha) (huf k' b' p' hk' ha') hne
  · intro k b p ha x hx bb o hh
    by_cases hk : ch k
    · exact (hfrom k b p hk ha x hx bb o hh).2
    · have hu := huf k b p hk ha
      have hn := h.nor k b p hu x hx bb o hh
      refine ⟨fun hfz hR' => ?_, fun hfz => hc.R bb (hn.2 hfz)⟩
      rcases (h3 bb hR').2 with hr | ⟨k0, b0, p0, g1, g2, g3⟩ | hge
      · exact hn.1 hfz hr
      · exact h.dis k k0 b b0 p p0 hu g2 (fun e => hk (e ▸ g1)) x hx _ g3 bb o hh rfl
      · have := h.lt hu x hx bb o hh; omega
  · intro k b p ha x hx bb o hh
    by_cases hk : ch k
    · rcases (hfrom k b p hk ha x hx bb o hh).1 with ⟨k0, b0, p0, z, g1, g2, g3, g4⟩ | hge
      · exact h.wit k0 b0 p0 g2 z g3 bb o g4
      · exact .inr (Nat.le_trans h.fr.hsize hge)
    · exact h.wit k b p (huf k b p hk ha) x hx bb o hh
  · intro bb hb
    rcases (h3 bb hb).2 with hr | ⟨k0, b0, p0, g1, g2, g3⟩ | hge
    · exact h.rin bb hr
    · rcases h.wit k0 b0 p0 g2 _ g3 bb 0 rfl with hw | hw
      · exact .inr (.inl ⟨0, hw⟩)
      · exact .inr (.inr hw)
    · exact .inr (.inr (Nat.le_trans h.fr.hsize hge))
  · exact h.fr.trans hf fun bb o ho => by
      obtain ⟨k, b, p, x, _, g2, _, g4, g5⟩ := h2 bb o ho
      exact h.wit k b p g2 x g4 bb o g5
end Go.Lift
