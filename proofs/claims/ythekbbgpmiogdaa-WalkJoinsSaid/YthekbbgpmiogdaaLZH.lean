/- New blocks. -/
import Derived.Test.YthekbbgpmiogdaaLZG
namespace Go.Lift
open Go Go.RowKit

def nilRow (e : TypeId) (fl : Bool) : Blk := ⟨true, e, 0, fl, [], 0, false⟩
def objBlk (t : TypeId) (cs : List IV) : Blk := ⟨false, t, 1, false, cs, 0, false⟩

theorem Fr.alloc_nil (w : World) (o : Obj) : Fr w (w.alloc o) [] := Fr.alloc w o []

section
variable {P : Program} {TT : TTab} {fx : Fx} {cx : Cx} {σ : St} {a : Act} {w : World}

theorem TIok.row_info {e : TypeId} {i : TI} (h : TIok P e i) (hz : 0 < i.size) : ∃ j, P.info? e = some j ∧ j.size = i.size ∧ 0 < i.size := by
  obtain ⟨j, h1, h2, _⟩ := h.info
  exact ⟨j, h1, h2, hz⟩

theorem push_nil (hm : Mem P fx cx σ w) {e : TypeId} {i : TI} (hi : TIok P e i) (hz : 0 < i.size) :
    ∃ cx', cx.le cx' ∧ cx'.R = cx.R ∧ Mem P fx cx' { σ with L := σ.L ++ [some (nilRow e i.flat)] } w ∧ VX cx' w (.sl σ.L.length 0 0 0) (.slice none 0 0) := by
  refine ⟨cx.add σ.L.length 0 ⟨.slice none 0 0, i.size⟩, Cx.add_le (.inl (hm.none_at 0)), rfl, ?_, ?_⟩
  · refine hm.push (Fr.refl w []) (nilRow e i.flat) ⟨.slice none 0 0, i.size⟩ (.inl ⟨rfl, ⟨[], ?_, ?_⟩, ?_, ?_⟩) rfl ?_
    · exact World.ownsRow_nil w 0 e i.size
    · simp [nilRow, TRl]
    · exact hi.row_info hz
    · simp [nilRow]
    · simp [Blk.rng]
  · unfold VX
    exact ⟨_, Cx.add_get _ _ _ _, .inl ⟨rfl, ⟨none, rfl⟩, rfl, rfl⟩⟩

theorem push_obj (hm : Mem P fx cx σ w) (t : TypeId) {xs : List IV} {ys : List Value} (hx : VXl cx w xs ys) (h1 : ∀ z ∈ ys, z.oneCell' = true) :
    ∃ cx', cx.le cx' ∧ cx'.R = cx.R ∧ Mem P fx cx' { σ with L := σ.L ++ [some (objBlk t xs)] } (w.alloc (.cells ys.toArray t)) ∧ HeapEq cx.R w (w.alloc (.cells ys.toArray t)) ∧
      VX cx' (w.alloc (.cells ys.toArray t)) (.ptr σ.L.length 0 0) (.pointer (some ⟨w.heap.size, 0, none⟩)) := by
  have hf := Fr.alloc_nil w (.cells ys.toArray t)
  have hR := hm.heapEq hf
  refine ⟨cx.add σ.L.length 0 ⟨.pointer (some ⟨w.heap.size, 0, none⟩), 0⟩, Cx.add_le (.inl (hm.none_at 0)), rfl, ?_, hR, ?_⟩
  · refine hm.push hf (objBlk t xs) ⟨.pointer (some ⟨w.heap.size, 0, none⟩), 0⟩ (.inr ⟨rfl, rfl, ⟨_, 0, ys.toArray, t, rfl, heap_alloc_at _ _, ?_, fun i x hi => ?_⟩⟩) rfl ?_
    · simp [objBlk, hx.length]
    · obtain ⟨y, g1, g2⟩ := hx.get i x hi
      exact ⟨y, by simpa using g1, VX.mono (Cx.le_refl _) hR _ _ g2, h1 y (List.mem_of_getElem? g1)⟩
    · intro x hx bb o hh
      simp [Blk.rng] at hx
      subst hx
      rw [hh.1]
      exact Nat.le_refl _
  · unfold VX
    exact ⟨_, Cx.add_get _ _ _ _, _, 0, .inl rfl, rfl⟩

theorem push_row (hm : Mem P fx cx σ w) {w' : World} (hf : Fr w w' []) {e : TypeId} {i : TI} (hi : TIok P e i) (hz : 0 < i.size) {n : Nat} {cur : Array Value} {cap : Nat} (hg : w'.heap[w.heap.size]? = some (.cells cur e (0, 0)))
    (hn : n ≤ cap) (hcap : cap ≤ maxLen) (hcur : cur.size = cap * i.size) {fl : Bool} {xs : List IV} (hx : TRl cx.R w xs (cur.toList.take (n * i.size))) (hfl : fl = true → ∀ x ∈ xs, ∃ z, x = .v z) :
    ∃ cx', cx.le cx' ∧ cx'.R = cx.R ∧ Mem P fx cx' { σ with L := σ.L ++ [some ⟨true, e, n, fl, xs, 0, false⟩] } w' ∧ HeapEq cx.R w w' ∧
      VX cx' w' (.sl σ.L.length 0 0 n) (.slice (some ⟨w.heap.size, 0, none⟩) n cap) := by
  have hR := hm.heapEq hf
  refine ⟨cx.add σ.L.length 0 ⟨.slice (some ⟨w.heap.size, 0, none⟩) n cap, i.size⟩, Cx.add_le (.inl (hm.none_at 0)), rfl, ?_, hR, ?_⟩
  · refine hm.push hf ⟨true, e, n, fl, xs, 0, false⟩ ⟨.slice (some ⟨w.heap.size, 0, none⟩) n cap, i.size⟩ (.inl ⟨rfl, ⟨_, ⟨?_, .inr ⟨_, cap, cur, rfl, Nat.zero_le _, hg, hn, hcap, hcur, rfl⟩⟩, ?_⟩, hi.row_info hz, hfl⟩) rfl ?_
    · simp only [List.length_take, Array.length_toList, hcur]; have := Nat.mul_le_mul_right i.size hn; omega
    · exact TRl.mono (fun _ h => h) hR _ _ hx
    · intro x hx bb o hh
      simp [Blk.rng] at hx
      subst hx
      exact Nat.le_of_eq hh.symm
  · unfold VX
    exact ⟨_, Cx.add_get _ _ _ _, .inr ⟨w.heap.size, n, cap, ⟨w.heap.size, 0, none⟩, rfl, rfl, by omega, fun _ => by simp⟩⟩

theorem VXl.append {xs xs' : List IV} {ys ys' : List Value} (h : VXl cx w xs ys) (h' : VXl cx w xs' ys') : VXl cx w (xs ++ xs') (ys ++ ys') := by
  refine VXl.of_get (by simp [h.length, h'.length]) fun i x y hx hy => ?_
  rw [List.getElem?_append] at hx hy
  rw [h.length] at hy
  split at hx <;> rename_i hi
  · rw [if_pos hi] at hy
    obtain ⟨y', h1, h2⟩ := h.get i x hx
    rw [hy] at h1; cases h1; exact h2
  · rw [if_neg hi] at hy
    obtain ⟨y', h1, h2⟩ := h'.get _ x hx
    rw [hy] at h1; cases h1; exact h2

theorem zeroObj_sound (htt : TTok P TT) (hm : Mem P fx cx σ w) : ∀ {zs : List ZC} {cs : List IV} {rs : List (Option Blk)} {ys : List Value}, zeroObj σ.L TT zs = some (cs, rs) → zOk zs ys → (∀ z ∈ zs, ∀ e i, z = .row e → TT e = some i → 0 < i.size) →
    ∃ cx', cx.le cx' ∧ cx'.R = cx.R ∧ Mem P fx cx' { σ with L := σ.L ++ rs } w ∧ VXl cx' w cs ys ∧ ∀ z ∈ ys, z.oneCell' = true
  | [], cs, rs, ys, h, hz, _ => by
    simp [zeroObj] at h
    obtain ⟨rfl, rfl⟩ := h
    simp [zOk] at hz
    subst hz
    exact ⟨cx, Cx.le_refl _, rfl, by simpa using hm, VXl.nil, by simp⟩
  | .v x :: zs, cs, rs, ys, h, hz, hp => by
    simp only [zeroObj, Option.map_eq_some_iff] at h
    obtain ⟨⟨cs', rs'⟩, h1, h2⟩ := h
    cases h2
    unfold zOk at hz
    obtain ⟨y, ys', rfl, ⟨rfl, hy⟩, hz'⟩ := hz
    obtain ⟨cx', g1, g0, g2, g3, g4⟩ := zeroObj_sound htt hm h1 hz' fun z hz => hp z (by simp [hz])
    exact ⟨cx', g1, g0, g2, VXl.cons (by simp [VX]) g3, by simp; exact ⟨hy, g4⟩⟩
  | .row e :: zs, cs, rs, ys, h, hz, hp => by
    unfold zeroObj at h
    split at h
    · rename_i i cs' rs' h1 h2
      cases h
      unfold zOk at hz
      obtain ⟨y, ys', rfl, rfl, hz'⟩ := hz
      obtain ⟨cx', g1, g0, g2, g3, g4⟩ := zeroObj_sound htt hm h2 hz' fun z hz => hp z (by simp [hz])
      obtain ⟨cx2, k1, k0, k2, k3⟩ := push_nil g2 (htt _ _ h1) (hp (.row e) (by simp) e i rfl h1)
      refine ⟨cx2, Cx.le_trans g1 k1, k0.trans g0, ?_, VXl.cons ?_ (VXl.mono k1 (HeapEq.refl _ _) _ _ g3), by simp; exact ⟨rfl, g4⟩⟩
      · simpa [nilRow, List.append_assoc] using k2
      · simpa using k3
    · cases h
theorem rowObj_sound (htt : TTok P TT) (hm : Mem P fx cx σ w) : ∀ {zs : List ZC} {xs cs : List IV} {rs : List (Option Blk)} {ys : List Value}, rowObj σ.L TT zs xs = some (cs, rs) → VXl cx w xs ys → (∀ z ∈ ys, z.oneCell' = true) →
    (∀ z ∈ zs, ∀ e i, z = .row e → TT e = some i → 0 < i.size) →
    ∃ cx', cx.le cx' ∧ cx'.R = cx.R ∧ Mem P fx cx' { σ with L := σ.L ++ rs } w ∧ VXl cx' w cs ys
  | [], [], cs, rs, ys, h, hx, _, _ => by
    simp [rowObj] at h
    obtain ⟨rfl, rfl⟩ := h
    exact ⟨cx, Cx.le_refl _, rfl, by simpa using hm, hx⟩
  | [], _ :: _, cs, rs, ys, h, hx, _, _ => by simp [rowObj] at h
  | .v _ :: zs, [], cs, rs, ys, h, hx, _, _ => by simp [rowObj] at h
  | .row _ :: zs, [], cs, rs, ys, h, hx, _, _ => by simp [rowObj] at h
  | .v z :: zs, x :: xs, cs, rs, ys, h, hx, h1, hp => by
    simp only [rowObj, Option.map_eq_some_iff] at h
    obtain ⟨⟨cs', rs'⟩, h2, h3⟩ := h
    cases h3
    unfold VXl at hx
    obtain ⟨y, ys', rfl, hy, hx'⟩ := hx
    obtain ⟨cx', g1, g0, g2, g3⟩ := rowObj_sound htt hm h2 hx' (fun z hz => h1 z (by simp [hz])) (fun z hz => hp z (by simp [hz]))
    exact ⟨cx', g1, g0, g2, VXl.cons (VX.mono g1 (HeapEq.refl _ _) _ _ hy) g3⟩
  | .row e :: zs, x :: xs, cs, rs, ys, h, hx, h1, hp => by
    unfold VXl at hx
    obtain ⟨y, ys', rfl, hy, hx'⟩ := hx
    have rec' : ∀ {cs' rs'}, rowObj σ.L TT zs xs = some (cs', rs') → ∃ cx', cx.le cx' ∧ cx'.R = cx.R ∧ Mem P fx cx' { σ with L := σ.L ++ rs' } w ∧ VXl cx' w cs' ys' := fun h2 =>
      rowObj_sound htt hm h2 hx' (fun z hz => h1 z (by simp [hz])) (fun z hz => hp z (by simp [hz]))
    by_cases hemp : x = .emp
    · subst hemp
      unfold rowObj at h
      split at h
      · rename_i i cs' rs' e1 e2
        cases h
        obtain ⟨cx', g1, g0, g2, g3⟩ := rec' e2
        obtain ⟨cx2, k1, k0, k2, k3⟩ := push_nil g2 (htt _ _ e1) (hp (.row e) (by simp) e i rfl e1)
        refine ⟨cx2, Cx.le_trans g1 k1, k0.trans g0, ?_, VXl.cons ?_ (VXl.mono k1 (HeapEq.refl _ _) _ _ g3)⟩
        · simpa [nilRow, List.append_assoc] using k2
        · unfold VX at hy
          obtain ⟨a, rfl⟩ := hy
          unfold VX at k3 ⊢
          obtain ⟨p, p1, p2⟩ := k3
          refine ⟨p, by simpa using p1, ?_⟩
          rcases p2 with ⟨q1, _, q2⟩ | ⟨g', m, cap, ad, _, q2, _⟩
          · exact .inl ⟨q1, ⟨a, rfl⟩, q2⟩
          · cases q2
      · cases h
    · have : rowObj σ.L TT (.row e :: zs) (x :: xs) = (rowObj σ.L TT zs xs).map fun (cs, rs) => (x :: cs, rs) := by
        cases x <;> first | exact absurd rfl hemp | rfl
      rw [this, Option.map_eq_some_iff] at h
      obtain ⟨⟨cs', rs'⟩, h2, h3⟩ := h
      cases h3
      obtain ⟨cx', g1, g0, g2, g3⟩ := rec' h2
      exact ⟨cx', g1, g0, g2, VXl.cons (VX.mono g1 (HeapEq.refl _ _) _ _ hy) g3⟩
end
end Go.Lift
