/- Stores. -/
import Derived.Test.YthekbbgpmiogdaaLZF
namespace Go.Lift
open Go Go.RowKit

theorem Cx.add_same {cx : Cx} {k ver : Nat} {p : Plc} (h : cx.pl k ver = some p) : cx.add k ver p = cx := by
  cases cx with
  | mk pl R =>
    simp only [Cx.add, Cx.mk.injEq, and_true]
    funext k' ver'
    split
    · rename_i e; obtain ⟨rfl, rfl⟩ := e; exact h.symm
    · rfl

theorem Fr.setRow {w : World} {g : Nat} {arr arr' : Array Value} {T : TypeId} (hg : w.heap[g]? = some (.cells arr T (0, 0))) (hsz : arr'.size = arr.size) (os : List OwnR)
    (hsame : ∀ j, ¬ Owns os g j → arr'[j]? = arr[j]?) : Fr w (w.setRow g arr') os := by
  have ho : ∀ b, b ≠ g → (w.setRow g arr').heap[b]? = w.heap[b]? := fun b hb => setRow_other w g b arr' hb
  refine ⟨rfl, rfl, rfl, by simp [World.setRow], ?_, ?_⟩
  · intro b hb hn
    by_cases e : b = g
    · subst e
      have : arr' = arr := by
        apply Array.ext_getElem?
        intro j
        exact hsame j (hn j)
      rw [this, setRow_heap w b arr arr T (0, 0) hg, hg]
    · exact ho b e
  · intro b arr0 T0 fr hb
    by_cases e : b = g
    · subst e
      rw [hg] at hb
      cases hb
      exact ⟨arr', setRow_heap w b arr arr' T (0, 0) hg, hsz, hsame⟩
    · exact ⟨arr0, by rw [ho b e]; exact hb, rfl, fun _ _ => rfl⟩

theorem putAt_length (cs : List IV) (o : Nat) (xs : List IV) : (putAt cs o xs).length = cs.length := by
  induction xs generalizing cs o with
  | nil => rfl
  | cons x xs ih => simp [putAt, ih]
theorem putAt_get (cs : List IV) (o : Nat) (xs : List IV) (hl : o + xs.length ≤ cs.length) (i : Nat) : (putAt cs o xs)[i]? = if o ≤ i ∧ i < o + xs.length then xs[i - o]? else cs[i]? := by
  induction xs generalizing cs o with
  | nil => simp [putAt]; intro h1 h2; omega
  | cons x xs ih =>
    simp only [putAt]
    rw [ih (cs.set o x) (o + 1) (by simp at hl ⊢; omega)]
    simp only [List.length_cons, List.getElem?_set] at hl ⊢
    by_cases h1 : i = o
    · subst h1
      rw [if_neg (by omega), if_pos rfl, if_pos (by omega), if_pos (by omega)]
      simp
    · by_cases h2 : o + 1 ≤ i ∧ i < o + 1 + xs.length
      · rw [if_pos h2, if_pos (by omega)]
        have : i - o = (i - (o + 1)) + 1 := by omega
        rw [this]; rfl
      · rw [if_neg h2, if_neg (fun e => h1 e.symm), if_neg (by omega)]

section
variable {P : Program} {fx : Fx} {cx : Cx} {σ : St} {a : Act} {w : World}

theorem rng_has {p : Plc} {b : Blk} {g d j : Nat} (hp : p.v = .pointer (some ⟨g, d, none⟩) ∨ d = 0 ∧ ∃ m cap, p.v = .slice (some ⟨g, 0, none⟩) m cap) (hj : d ≤ j ∧ j < d + b.cs.length) : Owns (b.rng p) g j := by
  rcases hp with hp | ⟨rfl, m, cap, hp⟩
  · exact ⟨.rng g d b.cs.length, by simp [Blk.rng, hp], rfl, hj.1, hj.2⟩
  · exact ⟨.blk g, by simp [Blk.rng, hp], rfl⟩

theorem storeVar_run {t : TypeId} {i : TI} (hi : TIok P t i) {g o : Nat} {T : TypeId} {arr : Array Value} (hg : w.heap[g]? = some (.cells arr T (0, 0))) {u : Value} (hu : ∀ z ∈ u.cells.toList, z.oneCell' = true)
    (hn : u.cells.size = i.size) (hl : o + i.size ≤ arr.size) :
    (storeVar t ⟨g, o, none⟩ u).run P w = .ok () (w.setRow g (arr.toList.take o ++ u.cells.toList ++ arr.toList.drop (o + u.cells.toList.length)).toArray) := by
  unfold storeVar
  have := run_storeCells_at P g o T u.cells.toList 0 arr w hg (by simp; omega) hu
  simp only [Nat.add_zero] at this
  simp only [Sem.run_bind, sizeOf_run hi, Result.andThen_ok, hn, ne_eq, not_true_eq_false, if_false, this]

/-- a store into a block of the frame's -/
theorem store_sound (hs : Sim P fx cx σ a w) {t : TypeId} {i : TI} (hi : TIok P t i) {k ver o : Nat} {b : Blk} (hb : blkAt σ.L k ver = some b) (hz : b.frz = false) {y u : Value} (hy : VX cx w (.ptr k ver o) y)
    {xs : List IV} (hxs : VXl cx w xs u.cells.toList) (h1 : ∀ z ∈ u.cells.toList, z.oneCell' = true) (hn : xs.length = i.size) (hl : o + i.size ≤ b.cs.length) (hp : 0 < i.size)
    (hrow : b.row = true → TRl cx.R w xs u.cells.toList ∧ (b.fl = true → ∀ x ∈ xs, ∃ z, x = .v z)) :
    ∃ w', (Instr.storeAt t y u).run P w = .ok () w' ∧ Mem P fx cx { σ with L := σ.L.set k (some { b with cs := putAt b.cs o xs }) } w' ∧ HeapEq cx.R w w' := by
  obtain ⟨p, q1, q2, q3⟩ := hs.m.atv hb
  have hne : b.cs ≠ [] := by intro e; simp [e] at hl; omega
  obtain ⟨g, d, arr, T, g1, g2, g3, g4⟩ := q3.cells hne
  unfold VX at hy
  obtain ⟨p', e1, e2⟩ := hy
  rw [q2] at e1; cases e1
  have := e2.addr g3
  subst this
  have hul : u.cells.toList.length = i.size := by rw [hxs.length, hn]
  have hus : u.cells.size = i.size := by rw [← hul]; simp
  have hrun := storeVar_run (P := P) hi g1 h1 hus (o := d + o) (by omega)
  let arr' := (arr.toList.take (d + o) ++ u.cells.toList ++ arr.toList.drop (d + o + u.cells.toList.length)).toArray
  have hsz : arr'.size = arr.size := by simp [arr']; omega
  have hget : ∀ j, arr'[j]? = if d + o ≤ j ∧ j < d + o + i.size then u.cells.toList[j - (d + o)]? else arr[j]? := fun j => by
    simp only [arr', List.getElem?_toArray]
    rw [List.getElem?_append, List.getElem?_append]
    simp only [List.length_append, List.length_take, Array.length_toList, hul]
    have hmin : min (d + o) arr.size = d + o := by omega
    rw [hmin]
    by_cases c1 : j < d + o
    · rw [if_pos (by omega), if_pos c1, if_neg (by omega), List.getElem?_take, if_pos c1]; simp
    · by_cases c2 : j < d + o + i.size
      · rw [if_pos c2, if_neg c1, if_pos ⟨by omega, c2⟩]
      · rw [if_neg c2, if_neg (by omega), List.getElem?_drop]
        rw [show d + o + i.size + (j - (d + o + i.size)) = j by omega]; simp
  have hfr : Fr w (w.setRow g arr') (b.rng p) := Fr.setRow g1 hsz _ fun j hj => by
    rw [hget j, if_neg]
    rintro ⟨c1, c2⟩
    exact hj (rng_has g3 ⟨by omega, by omega⟩)
  have hR : HeapEq cx.R w (w.setRow g arr') := fun bb hbb => hfr.hblk bb (hs.m.rlt bb hbb) fun oo ⟨x, hx, hh⟩ => (hs.m.nor k b p q1 x hx bb oo hh).1 hz hbb
  have hheap : (w.setRow g arr').heap[g]? = some (.cells arr' T (0, 0)) := setRow_heap w g arr arr' T (0, 0) g1
  have hcells : ∀ (j : Nat) (x : IV), (putAt b.cs o xs)[j]? = some x → ∃ y, arr'[d + j]? = some y ∧ VX cx (w.setRow g arr') x y ∧ y.oneCell' = true := fun j x hx => by
    rw [putAt_get _ _ _ (by omega)] at hx
    rw [hget]
    by_cases c : o ≤ j ∧ j < o + xs.length
    · rw [if_pos c] at hx
      rw [if_pos (by omega), show d + j - (d + o) = j - o by omega]
      obtain ⟨y, y1, y2⟩ := hxs.get _ _ hx
      exact ⟨y, y1, VX.mono (Cx.le_refl _) hR _ _ y2, h1 y (List.mem_of_getElem? y1)⟩
    · rw [if_neg c] at hx
      rw [if_neg (by omega)]
      obtain ⟨y, y1, y2, y3⟩ := g4 j x hx
      exact ⟨y, y1, VX.mono (Cx.le_refl _) hR _ _ y2, y3⟩
  have hok : BlkOk P cx (w.setRow g arr') p { b with cs := putAt b.cs o xs } := by
    rcases q3 with ⟨hr, q3⟩ | ⟨hr, hf, q3⟩
    · refine .inl ⟨hr, ?_, q3.info, ?_⟩
      · obtain ⟨t1, t2⟩ := hrow hr
        rcases q3.v with ⟨_, _, hc⟩ | ⟨g', cap, cur, v1, v2, v3, v4, v5, v6, v7⟩
        · exact absurd hc hne
        · have hg' : g' = g ∧ d = 0 := by
            rcases g3 with g3 | ⟨rfl, m, cap', g3⟩ <;> rw [v1] at g3 <;> simp_all
          obtain ⟨rfl, rfl⟩ := hg'
          rw [g1] at v2; cases v2
          refine ⟨arr'.toList.take (b.n * p.sz), ⟨?_, .inr ⟨g', cap, arr', v1, Nat.zero_le _, hheap, v3, v4, by rw [hsz]; exact v5, rfl⟩⟩, ?_⟩
          · simp; rw [hsz, v5]; have := Nat.mul_le_mul_right p.sz v3; omega
          · refine TRl.of_get ?_ fun j x y hx hy => ?_
            · simp [putAt_length]; rw [hsz, v5, v7]; have := Nat.mul_le_mul_right p.sz v3; omega
            · have hj : j < b.cs.length := by rw [← putAt_length b.cs o xs]; exact (List.getElem?_eq_some_iff.1 hx).1
              rw [List.getElem?_take, if_pos (by omega)] at hy
              rw [putAt_get _ _ _ (by omega)] at hx
              have hy' : arr'[j]? = some y := by simpa using hy
              rw [hget j] at hy'
              by_cases c : o ≤ j ∧ j < o + xs.length
              · rw [if_pos c] at hx
                rw [if_pos (by omega)] at hy'
                obtain ⟨y', z1, z2, z3⟩ := t1.get _ _ hx
                rw [show j - (0 + o) = j - o by omega, z1] at hy'
                cases hy'
                exact ⟨TR.mono (fun _ h => h) hR _ _ z2, z3⟩
              · rw [if_neg c] at hx
                rw [if_neg (by omega)] at hy'
                obtain ⟨y', z1, z2, z3⟩ := v6.get _ _ hx
                rw [List.getElem?_take, if_pos (by omega)] at z1
                have z1' : arr[j]? = some y' := by simpa using z1
                rw [z1'] at hy'; cases hy'
                exact ⟨TR.mono (fun _ h => h) hR _ _ z2, z3⟩
      · intro hfl x hx
        obtain ⟨j, hj, he⟩ := List.getElem_of_mem hx
        have hx' : (putAt b.cs o xs)[j]? = some x := by rw [List.getElem?_eq_getElem hj, he]
        rw [putAt_get _ _ _ (by omega)] at hx'
        split at hx'
        · exact (hrow hr).2 hfl x (List.mem_of_getElem? hx')
        · exact q3.flat hfl x (List.mem_of_getElem? hx')
    · refine .inr ⟨hr, hf, ?_⟩
      rcases g3 with g3 | ⟨rfl, m, cap', g3⟩
      · exact ⟨g, d, arr', T, g3, hheap, by simp [putAt_length]; omega, hcells⟩
      · obtain ⟨g', d', arr0, T0, k1, _⟩ := q3.ex
        rw [g3] at k1; cases k1
  refine ⟨w.setRow g arr', by simp only [Instr.storeAt, Instr.sureAddr, Sem.run_bind, Sem.run_pure, Result.andThen_ok, hrun, arr'], ?_, hR⟩
  have hrng : ({ b with cs := putAt b.cs o xs } : Blk).rng p = b.rng p := by simp [Blk.rng, putAt_length]
  have := hs.m.turn q1 hz hfr { b with cs := putAt b.cs o xs } p (.inl ⟨rfl, rfl⟩) cx.R (fun _ h => h) (fun bb h => .inl h) (by rw [Cx.add_same q1.2]; exact hok) (by
    rw [hrng]
    intro x hx bb oo hh
    exact ⟨.inl ⟨x, hx, hh⟩, fun _ => (hs.m.nor k b p q1 x hx bb oo hh).1 hz, fun h => by rw [show ({ b with cs := putAt b.cs o xs } : Blk).frz = b.frz from rfl, hz] at h; cases h⟩)
  rw [show ({ cx.add k ({ b with cs := putAt b.cs o xs } : Blk).ver p with R := cx.R } : Cx) = cx from Cx.add_same q1.2] at this
  exact this
end
end Go.Lift
