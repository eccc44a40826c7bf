/- Reads and writes of the frame's blocks. -/
import Derived.Test.YthekbbgpmiogdaaLZE
namespace Go.Lift
open Go Go.RowKit

theorem blkAt_some {L : List (Option Blk)} {k ver : Nat} {b : Blk} (h : blkAt L k ver = some b) : L[k]? = some (some b) ∧ b.ver = ver := by
  unfold blkAt at h
  split at h
  · rename_i b' hb
    split at h
    · rename_i hv
      cases h; exact ⟨hb, hv⟩
    · cases h
  · cases h

section
variable {P : Program} {fx : Fx} {cx : Cx} {σ : St} {a : Act} {w : World}

theorem Mem.atv (h : Mem P fx cx σ w) {k ver : Nat} {b : Blk} (hb : blkAt σ.L k ver = some b) : ∃ p, At cx σ k b p ∧ cx.pl k ver = some p ∧ BlkOk P cx w p b := by
  obtain ⟨h1, h2⟩ := blkAt_some hb
  obtain ⟨p, g1, g2⟩ := h.at h1
  exact ⟨p, g1, h2 ▸ g1.2, g2⟩

/-- a block's cells in memory: where, and that they hold what the ideal cells say -/
theorem BlkOk.cells {p : Plc} {b : Blk} (h : BlkOk P cx w p b) (hne : b.cs ≠ []) : ∃ g d arr T, w.heap[g]? = some (.cells arr T (0, 0)) ∧ d + b.cs.length ≤ arr.size ∧
    (p.v = .pointer (some ⟨g, d, none⟩) ∨ d = 0 ∧ ∃ m cap, p.v = .slice (some ⟨g, 0, none⟩) m cap) ∧
    ∀ (i : Nat) (x : IV), b.cs[i]? = some x → ∃ y, arr[d + i]? = some y ∧ VX cx w x y ∧ y.oneCell' = true := by
  rcases h with ⟨_, h⟩ | ⟨_, _, h⟩
  · rcases h.v with ⟨_, _, hc⟩ | ⟨g, cap, cur, h1, h2, h3, h4, h5, h6, h7⟩
    · exact absurd hc hne
    · refine ⟨g, 0, cur, b.t, h2, ?_, .inr ⟨rfl, _, _, h1⟩, fun i x hx => ?_⟩
      · rw [h7, h5]; have := Nat.mul_le_mul_right p.sz h3; omega
      · obtain ⟨y, g1, g2, g3⟩ := h6.get i x hx
        refine ⟨y, ?_, TR.vx _ _ g2, g3⟩
        rw [List.getElem?_take] at g1
        split at g1
        · simpa using g1
        · cases g1
  · obtain ⟨g, d, arr, T, h1, h2, h3, h4⟩ := h.ex
    exact ⟨g, d, arr, T, h2, h3, .inl h1, h4⟩

theorem PTr.addr {p : Plc} {o g d : Nat} {y : Value} (h : PTr p o y) (hp : p.v = .pointer (some ⟨g, d, none⟩) ∨ d = 0 ∧ ∃ m cap, p.v = .slice (some ⟨g, 0, none⟩) m cap) : y = .pointer (some ⟨g, d + o, none⟩) := by
  obtain ⟨g', d', h1, rfl⟩ := h
  rcases hp with hp | ⟨rfl, m, cap, hp⟩ <;> rcases h1 with h1 | ⟨rfl, m', cap', h1⟩ <;> rw [hp] at h1 <;> simp_all

theorem run_loads (g o : Nat) (ys : List Value) (h : ∀ (i : Nat) (u : Value), ys[i]? = some u → w.cell? ⟨g, o + i, none⟩ = some u) : (loadCells ⟨g, o, none⟩ ys.length).run P w = .ok ys.toArray w :=
  run_loadCells_list w ⟨g, o, none⟩ ys fun j v hj => by rw [Addr.add_lit]; exact h j v hj

/-- cells o .. o + n of a list of ideal cells, read in memory -/
theorem read_cells {cs : List IV} {arr : Array Value} {d : Nat} {g : Nat} {T : TypeId} {fr : Nat × Nat} (hg : w.heap[g]? = some (.cells arr T fr))
    (hc : ∀ (i : Nat) (x : IV), cs[i]? = some x → ∃ y, arr[d + i]? = some y ∧ VX cx w x y ∧ y.oneCell' = true) (o n : Nat) (hl : o + n ≤ cs.length) :
    ∃ ys, (loadCells ⟨g, d + o, none⟩ n).run P w = .ok ys.toArray w ∧ VXl cx w ((cs.drop o).take n) ys ∧ ∀ z ∈ ys, z.oneCell' = true := by
  have hcell : ∀ j, w.cell? ⟨g, j, none⟩ = arr[j]? := fun j => cell_of_row w g j arr T fr hg
  have hx : ∀ i, i < n → ∃ x, cs[o + i]? = some x := fun i hi => ⟨_, List.getElem?_eq_getElem (by omega)⟩
  let ys := (List.range n).map fun i => arr.getD (d + (o + i)) undef
  have hys : ∀ i, i < n → ys[i]? = arr[d + (o + i)]? := fun i hi => by
    obtain ⟨x, hx⟩ := hx i hi
    obtain ⟨y, h1, _⟩ := hc _ _ hx
    simp [ys, hi, h1]
  have hlen : ys.length = n := by simp [ys]
  refine ⟨ys, ?_, ?_, ?_⟩
  · have := run_loads (P := P) (w := w) g (d + o) ys fun i u hu => by
      have hi : i < n := by rw [← hlen]; exact (List.getElem?_eq_some_iff.1 hu).1
      rw [hcell, Nat.add_assoc, ← hys i hi]; exact hu
    rwa [hlen] at this
  · refine VXl.of_get (by simp [hlen]; omega) fun i x y hx' hy => ?_
    have hi : i < n := by rw [← hlen]; exact (List.getElem?_eq_some_iff.1 hy).1
    rw [List.getElem?_take, if_pos hi, List.getElem?_drop] at hx'
    obtain ⟨y', h1, h2, _⟩ := hc _ _ hx'
    rw [hys i hi, h1] at hy
    cases hy; exact h2
  · intro z hz
    obtain ⟨i, hi, he⟩ := List.getElem_of_mem hz
    have hi' : i < n := by rw [← hlen]; exact hi
    obtain ⟨x, hx⟩ := hx i hi'
    obtain ⟨y', h1, _, h3⟩ := hc _ _ hx
    have := hys i hi'
    rw [List.getElem?_eq_getElem hi, he, h1] at this
    cases this; exact h3

theorem isAgg_run {t : TypeId} {i : TI} (h : TIok P t i) : (isAgg t).run P w = .ok i.isA w := by
  obtain ⟨d, h1, _, h3⟩ := h.desc
  unfold isAgg
  simp only [Sem.run_bind, run_underlying h1, Result.andThen_ok]
  rw [← h3]; cases d <;> rfl
theorem sizeOf_run {t : TypeId} {i : TI} (h : TIok P t i) : (sizeOf t).run P w = .ok i.size w := by
  obtain ⟨j, h1, h2, _⟩ := h.info
  simp [sizeOf, typeInfo, h1, h2]

/-- a variable's cells, loaded -/
theorem loadVar_run {t : TypeId} {i : TI} (hi : TIok P t i) {cs : List IV} {arr : Array Value} {d : Nat} {g : Nat} {T : TypeId} {fr : Nat × Nat} (hg : w.heap[g]? = some (.cells arr T fr))
    (hc : ∀ (i : Nat) (x : IV), cs[i]? = some x → ∃ y, arr[d + i]? = some y ∧ VX cx w x y ∧ y.oneCell' = true) (o : Nat) :
    (i.isA = true → o + i.size ≤ cs.length → ∃ y, (loadVar t ⟨g, d + o, none⟩).run P w = .ok y w ∧ VX cx w (.agg ((cs.drop o).take i.size)) y) ∧
    (i.isA = false → ∀ x, cs[o]? = some x → ∃ y, (loadVar t ⟨g, d + o, none⟩).run P w = .ok y w ∧ VX cx w x y ∧ y.oneCell' = true) := by
  refine ⟨fun hA hl => ?_, fun hA x hx => ?_⟩
  · obtain ⟨ys, h1, h2, h3⟩ := read_cells (P := P) (cx := cx) hg hc o i.size hl
    refine ⟨.agg ys.toArray, ?_, ?_⟩
    · simp [loadVar, isAgg_run hi, hA, sizeOf_run hi, h1]
    · unfold VX; exact ⟨ys.toArray, rfl, h2, h3⟩
  · obtain ⟨y, h1, h2, h3⟩ := hc o x hx
    refine ⟨y, ?_, h2, h3⟩
    have hcell : w.cell? ⟨g, d + o, none⟩ = some y := by rw [cell_of_row w g _ arr T fr hg]; exact h1
    simp [loadVar, isAgg_run hi, hA, hcell]
end

def loadIV (i : TI) (cs : List IV) (o : Nat) : Option IV :=
  if i.isA = true then if o + i.size ≤ cs.length then some (.agg ((cs.drop o).take i.size)) else none else cs[o]?

section
variable {P : Program} {fx : Fx} {cx : Cx} {σ : St} {a : Act} {w : World}
theorem loadIV_run {t : TypeId} {i : TI} (hi : TIok P t i) {cs : List IV} {arr : Array Value} {d : Nat} {g : Nat} {T : TypeId} {fr : Nat × Nat} (hg : w.heap[g]? = some (.cells arr T fr))
    (hc : ∀ (i : Nat) (x : IV), cs[i]? = some x → ∃ y, arr[d + i]? = some y ∧ VX cx w x y ∧ y.oneCell' = true) {o : Nat} {v : IV} (hv : loadIV i cs o = some v) :
    ∃ y, (loadVar t ⟨g, d + o, none⟩).run P w = .ok y w ∧ VX cx w v y := by
  have := loadVar_run (P := P) (cx := cx) hi hg hc o
  unfold loadIV at hv
  split at hv
  · rename_i hA
    split at hv
    · cases hv; exact this.1 hA ‹_›
    · cases hv
  · rename_i hA
    obtain ⟨y, h1, h2, _⟩ := this.2 (by simpa using hA) v hv
    exact ⟨y, h1, h2⟩

/-- a load through an address -/
theorem load_sound (hs : Sim P fx cx σ a w) {t : TypeId} {i : TI} (hi : TIok P t i) {k ver o : Nat} {b : Blk} (hb : blkAt σ.L k ver = some b) {y : Value} (hy : VX cx w (.ptr k ver o) y) {v : IV} (hv : loadIV i b.cs o = some v) (hz : 0 < i.size) :
    ∃ u, (Instr.loadAt t y).run P w = .ok u w ∧ VX cx w v u := by
  obtain ⟨p, h1, h2, h3⟩ := hs.m.atv hb
  have hne : b.cs ≠ [] := by
    intro e
    simp [loadIV, e] at hv
    omega
  obtain ⟨g, d, arr, T, g1, g2, g3, g4⟩ := h3.cells hne
  unfold VX at hy
  obtain ⟨p', q1, q2⟩ := hy
  rw [h2] at q1; cases q1
  have := q2.addr g3
  subst this
  obtain ⟨u, r1, r2⟩ := loadIV_run hi g1 g4 hv
  exact ⟨u, by simp [Instr.loadAt, Instr.sureAddr, r1], r2⟩
theorem load_ro_sound {t : TypeId} {i : TI} (hi : TIok P t i) {cs : List IV} {o : Nat} {y : Value} (hy : VX cx w (.rp cs o) y) {v : IV} (hv : loadIV i cs o = some v) (hz : 0 < i.size) :
    ∃ u, (Instr.loadAt t y).run P w = .ok u w ∧ VX cx w v u := by
  unfold VX at hy
  obtain ⟨b, d, rfl, hb, hm⟩ := hy
  have hne : cs ≠ [] := by
    intro e
    simp [loadIV, e] at hv
    omega
  obtain ⟨x, hx⟩ : ∃ x, cs[0]? = some x := by cases cs with | nil => exact absurd rfl hne | cons x xs => exact ⟨x, rfl⟩
  obtain ⟨u0, hu0, _⟩ := hm.get 0 x hx
  obtain ⟨arr, T, fr, hg⟩ : ∃ arr T fr, w.heap[b]? = some (.cells arr T fr) := by
    unfold World.cell? at hu0
    split at hu0
    · rename_i c T fr hc; exact ⟨c, T, fr, hc⟩
    · cases hu0
  obtain ⟨u, r1, r2⟩ := loadIV_run (cx := cx) hi hg (cs := cs) (d := d) (fun i x hx => by
    obtain ⟨y, h1, h2, h3⟩ := hm.get i x hx
    rw [cell_of_row w b _ arr T fr hg] at h1
    exact ⟨y, h1, TR.vx _ _ h2, h3⟩) hv
  exact ⟨u, by simp [Instr.loadAt, Instr.sureAddr, r1], r2⟩
end
end Go.Lift
