/- append -/
import Derived.Test.YthekbbgpmiogdaaLZH
namespace Go.Lift
open Go Go.RowKit

/-- what is appended -/
structure Src (P : Program) (w : World) (u : TypeId) (x : Value) (m size : Nat) (news : List Value) : Prop where
  ty : (∃ e, P.underlying u = some (.slice e)) ∨ P.underlying u = some .string
  len : ∀ w1, (Builtin.lenOf x).run P w1 = .ok m w1
  cells : ∀ w1 : World, w1.heap = w.heap → (Builtin.firstCells size m x).run P w1 = .ok news.toArray w1
  num : news.length = m * size
  one : ∀ z ∈ news, z.oneCell' = true

section
variable {P : Program} {TT : TTab} {fx : Fx} {cx : Cx} {σ : St} {a : Act} {w : World}

theorem run_append_in {t u ty e : TypeId} {i : TypeInfo} (ht : P.underlying t = some (.slice e)) (hi : P.info? e = some i) {base : Option Addr} {n c m : Nat} {x : Value} {news : List Value}
    (hs : Src P w u x m i.size news) (hr : n + m ≤ c) :
    (Builtin.append_ #[t, u] ty #[.slice base n c, x]).run P w = (((match base with | some a => storeCells (a.add (n * i.size)) news | none => pure ()) : Sem Unit).run P w).andThen fun _ w' => .ok (.slice base (n + m) c) w' := by
  have hl := hs.len w
  have hc := hs.cells w rfl
  rcases hs.ty with ⟨e', hd⟩ | hd <;> cases base <;> simp [Builtin.append_, run_underlying ht, run_underlying hd, sizeOf, typeInfo, hi, hl, hr, hc]

theorem run_append_new {t u ty e : TypeId} {i : TypeInfo} {z : Value} (ht : P.underlying t = some (.slice e)) (hi : P.info? e = some i) (hz : i.zero = some z) {base : Option Addr} {n c m : Nat} {x : Value} {olds news : List Value}
    (hs : Src P w u x m i.size news) (ho : ∀ w1 : World, w1.heap = w.heap → (Builtin.firstCells i.size n (.slice base n c)).run P w1 = .ok olds.toArray w1)
    (hr : c < n + m) (h63 : n + m ≤ 9223372036854775807) (hfit : (n + m) * i.bytes ≤ 140737488355328) :
    (Builtin.append_ #[t, u] ty #[.slice base n c, x]).run P w = .ok (.slice (some ⟨w.heap.size, 0, none⟩) (n + m) (grownCap w (n + m) c e))
      (w.drew.alloc (.cells (olds.toArray ++ news.toArray ++ Builtin.zeroCells z.cells (grownCap w (n + m) c e - (n + m))) e)) := by
  have hl := hs.len w
  have hc := hs.cells w.drew rfl
  have ho' := ho w.drew rfl
  have hn' : ¬ (n + m ≤ c) := by omega
  have h63' : ¬ (9223372036854775807 < ((n : Int) + (m : Int))) := by omega
  have h48' : ¬ (281474976710656 < Builtin.nextslicecap (n + m) c * i.bytes) := by have := growslice_fits hr hfit; omega
  rcases hs.ty with ⟨e', hd⟩ | hd <;> simp [Builtin.append_, run_underlying ht, run_underlying hd, sizeOf, typeInfo, zeroValue, hi, hz, hl, hn', h63', h48', Question.forced, hc, ho', newRow, grownCap] <;>
    (congr 2; apply Array.ext'; simp [List.append_assoc])

theorem src_slice {u e : TypeId} (ht : P.underlying u = some (.slice e)) {size m c : Nat} {ad : Option Addr} {news : List Value} (hn : news.length = m * size) (h1 : ∀ z ∈ news, z.oneCell' = true)
    (hc : news = [] ∨ ∃ b o, ad = some ⟨b, o, none⟩ ∧ ∀ (j : Nat) (v : Value), news[j]? = some v → w.cell? ⟨b, o + j, none⟩ = some v) : Src P w u (.slice ad m c) m size news := by
  refine ⟨.inl ⟨_, ht⟩, fun w1 => by simp [Builtin.lenOf], fun w1 hw => ?_, hn, h1⟩
  rcases hc with rfl | ⟨b, o, rfl, hc⟩
  · have h0 : m * size = 0 := by simpa using hn.symm
    cases ad with
    | none => simp [Builtin.firstCells]
    | some ad => simp [Builtin.firstCells, h0, loadCells, loadCellsFrom]
  · exact run_firstCells_some w1 size m ⟨b, o, none⟩ m c news hn fun j v hj => by
      rw [Addr.add_lit]
      have := hc j v hj
      simpa [World.cell?, hw] using this

def strCells (s : ByteArray) : List IV := s.data.toList.map fun b => .v (.int .u8 b.toNat)
theorem strCells_length (s : ByteArray) : (strCells s).length = s.size := by simp [strCells]
theorem src_string {u : TypeId} (ht : P.underlying u = some .string) (s : ByteArray) : Src P w u (.string s) s.size 1 (s.data.toList.map fun b => .int .u8 b.toNat) := by
  refine ⟨.inr ht, fun w1 => by simp [Builtin.lenOf], fun w1 _ => ?_, by simp, fun z hz => ?_⟩
  · simp only [Builtin.firstCells, Sem.run_pure]
    congr 1
    have hx : s.extract 0 s.size = s := ByteArray.extract_zero_size
    rw [hx]
    apply Array.ext'
    simp
  · simp at hz; obtain ⟨b, _, rfl⟩ := hz; rfl
theorem TRl_str (R : Nat → Prop) (s : ByteArray) : TRl R w (strCells s) (s.data.toList.map fun b => .int .u8 b.toNat) := by
  refine TRl.of_get (by simp [strCells]) fun i x y hx hy => ?_
  simp only [strCells, List.getElem?_map, Option.map_eq_some_iff] at hx hy
  obtain ⟨b, h1, rfl⟩ := hx
  obtain ⟨b', h2, rfl⟩ := hy
  rw [h1] at h2; cases h2
  exact ⟨by simp [TR], rfl⟩

/-- APPEND to a row of the frame's: what comes of it -/
theorem append_row (hs : Mem P fx cx σ w) {t u ty e : TypeId} {i : TI} (ht : P.underlying t = some (.slice e)) (hi : TIok P e i) (hz : 0 < i.size) {k ver n : Nat} {b : Blk} (hb : blkAt σ.L k ver = some b)
    (hbz : b.frz = false) (hbr : b.row = true) (hbt : b.t = e) (hnb : n ≤ b.n) {y x : Value} (hy : VX cx w (.sl k ver 0 n) y) {m : Nat} {news : List Value} {xs : List IV}
    (hsrc : Src P w u x m i.size news) (hxs : TRl cx.R w xs news) (hfl : b.fl = true → ∀ z ∈ xs, ∃ q, z = .v q) (hmax : n + m ≤ maxLen) (hfit : (n + m) * i.bytes ≤ 140737488355328) :
    ∃ y' w' cx', (Builtin.append_ #[t, u] ty #[y, x]).run P w = .ok y' w' ∧ cx.le cx' ∧ cx'.R = cx.R ∧
      Mem P fx cx' { σ with L := σ.L.set k (some { b with n := n + m, cs := b.cs.take (n * i.size) ++ xs, ver := ver + 1 }) } w' ∧ HeapEq cx.R w w' ∧ VX cx' w' (.sl k (ver + 1) 0 (n + m)) y' := by
  obtain ⟨p, q1, q2, q3⟩ := hs.atv hb
  have hv := (blkAt_some hb).2
  subst hbt
  obtain ⟨j, hj, hj2, hj3, zv, hz1, hz2⟩ := hi.info
  obtain ⟨_, q3⟩ : b.row = true ∧ RowOk P cx w p b := by
    rcases q3 with h | ⟨hr, _⟩
    · exact h
    · rw [hr] at hbr; cases hbr
  obtain ⟨j', hj', hsz, hpos⟩ := q3.info
  rw [hj] at hj'; cases hj'
  have hpsz : p.sz = i.size := by rw [← hsz, hj2]
  unfold VX at hy
  obtain ⟨p', e1, e2⟩ := hy
  rw [q2] at e1; cases e1
  have hlt : k < σ.L.length := (List.getElem?_eq_some_iff.1 q1.1).1
  have hzl : zv.cells.size = j.size := by
    have := hz2.length
    rw [hi.zlen] at this
    rw [hj2, ← this]; simp
  have hlen : (b.cs.take (n * i.size)).length = n * i.size := by
    have h1 := q3.len
    have h2 := Nat.mul_le_mul_right p.sz hnb
    rw [← hpsz, List.length_take, h1]; omega
  have hsrc' : Src P w u x m j.size news := by rw [hj2]; exact hsrc
  -- behind the append: the block's new place p', in the world w'
  have done : ∀ (w' : World) (p' : Plc) (y' : Value) (cap' g' : Nat) (cur' : Array Value), Fr w w' (b.rng p) → p' = ⟨.slice (some ⟨g', 0, none⟩) (n + m) cap', i.size⟩ → y' = .slice (some ⟨g', 0, none⟩) (n + m) cap' →
      w'.heap[g']? = some (.cells cur' b.t (0, 0)) → n + m ≤ cap' → cap' ≤ maxLen → cur'.size = cap' * i.size → TRl cx.R w (b.cs.take (n * i.size) ++ xs) (cur'.toList.take ((n + m) * i.size)) →
      ((OwnR.blk g' ∈ b.rng p) ∨ w.heap.size ≤ g') →
      ∃ cx', cx.le cx' ∧ cx'.R = cx.R ∧ Mem P fx cx' { σ with L := σ.L.set k (some { b with n := n + m, cs := b.cs.take (n * i.size) ++ xs, ver := ver + 1 }) } w' ∧ HeapEq cx.R w w' ∧ VX cx' w' (.sl k (ver + 1) 0 (n + m)) y' := by
    intro w' p' y' cap' g' cur' hf hp' hy' hg hcap hmaxl hcur htr hwhere
    subst hp' hy'
    have hR : HeapEq cx.R w w' := fun bb hbb => hf.hblk bb (hs.rlt bb hbb) fun oo ⟨r, hr, hh⟩ => (hs.nor k b p q1 r hr bb oo hh).1 hbz hbb
    let b' : Blk := { b with n := n + m, cs := b.cs.take (n * i.size) ++ xs, ver := ver + 1 }
    have hle : cx.le (cx.add k (ver + 1) ⟨.slice (some ⟨g', 0, none⟩) (n + m) cap', i.size⟩) := Cx.add_le (.inl (by
      cases hp : cx.pl k (ver + 1) with
      | none => rfl
      | some q => have := (hs.plok _ _ _ hp).2 b q1.1; omega))
    have hok : BlkOk P (cx.add k (ver + 1) ⟨.slice (some ⟨g', 0, none⟩) (n + m) cap', i.size⟩) w' ⟨.slice (some ⟨g', 0, none⟩) (n + m) cap', i.size⟩ b' := by
      refine .inl ⟨hbr, ⟨_, ⟨?_, .inr ⟨g', cap', cur', rfl, Nat.zero_le _, hg, hcap, hmaxl, hcur, rfl⟩⟩, ?_⟩, hi.row_info hz, ?_⟩
      · simp only [List.length_take, Array.length_toList, hcur, b']; have := Nat.mul_le_mul_right i.size hcap; omega
      · exact TRl.mono (fun _ h => h) hR _ _ htr
      · intro hfl' z hz
        simp only [b', List.mem_append] at hz
        rcases hz with hz | hz
        · exact q3.flat hfl' z (List.mem_of_mem_take hz)
        · exact hfl hfl' z hz
    refine ⟨cx.add k (ver + 1) ⟨.slice (some ⟨g', 0, none⟩) (n + m) cap', i.size⟩, hle, rfl, ?_, hR, ?_⟩
    · refine hs.turn q1 hbz hf b' _ (.inr (by simp [b', hv])) cx.R (fun _ h => h) (fun _ h => .inl h) hok ?_
      intro r hr bb oo hh
      simp [Blk.rng] at hr
      subst hr
      have hbb : bb = g' := hh
      subst hbb
      refine ⟨?_, fun _ hR' => ?_, fun h' => by simp [b', hbz] at h'⟩
      · exact hwhere.imp (fun h' => ⟨OwnR.blk bb, h', rfl⟩) id
      · rcases hwhere with h' | h'
        · exact (hs.nor k b p q1 _ h' bb 0 rfl).1 hbz hR'
        · have := hs.rlt bb hR'; omega
    · unfold VX
      exact ⟨_, Cx.add_get _ _ _ _, .inr ⟨g', n + m, cap', ⟨g', 0, none⟩, rfl, rfl, by omega, fun _ => by simp⟩⟩
  have hnew : ∀ (base : Option Addr) (c : Nat) (olds : List Value), y = .slice base n c → (∀ w1 : World, w1.heap = w.heap → (Builtin.firstCells j.size n (.slice base n c)).run P w1 = .ok olds.toArray w1) → c < n + m →
      TRl cx.R w (b.cs.take (n * i.size)) olds → olds.length = n * i.size → ∃ y' w' cx', (Builtin.append_ #[t, u] ty #[y, x]).run P w = .ok y' w' ∧ cx.le cx' ∧ cx'.R = cx.R ∧
      Mem P fx cx' { σ with L := σ.L.set k (some { b with n := n + m, cs := b.cs.take (n * i.size) ++ xs, ver := ver + 1 }) } w' ∧ HeapEq cx.R w w' ∧ VX cx' w' (.sl k (ver + 1) 0 (n + m)) y' := by
    intro base c olds hy ho hc htr hol
    have hm63 : n + m ≤ 9223372036854775807 := by simp only [maxLen] at hmax; omega
    have hrun := run_append_new (ty := ty) ht hj hz1 hsrc' ho hc hm63 (by rw [hj3]; exact hfit)
    have hge := grownCap_ge w (n + m) c b.t
    have hcm := grownCap_le_maxLen w (n + m) c b.t hmax
    obtain ⟨cx', h1, h2, h3, h4, h5⟩ := done _ ⟨_, _⟩ _ (grownCap w (n + m) c b.t) w.heap.size (olds.toArray ++ news.toArray ++ Builtin.zeroCells zv.cells (grownCap w (n + m) c b.t - (n + m)))
      (((Fr.drew w []).trans (Fr.alloc_nil w.drew _) (fun _ _ h => .inl h)).mono (fun _ _ ⟨_, h, _⟩ => by simp at h)) rfl rfl (heap_alloc_at w.drew _) hge hcm (by
        simp only [Array.size_append, List.size_toArray, size_zeroCells, hzl, hol, hsrc.num, ← Nat.add_mul, hj2]
        congr 1; omega) (by
        have e : (olds.toArray ++ news.toArray ++ Builtin.zeroCells zv.cells (grownCap w (n + m) c b.t - (n + m))).toList.take ((n + m) * i.size) = olds ++ news := by
          simp only [Array.toList_append]
          have : (n + m) * i.size = (olds ++ news).length := by simp [hol, hsrc.num, Nat.add_mul]
          rw [this]; exact List.take_left
        rw [e]; exact htr.append hxs) (.inr (Nat.le_refl _))
    exact ⟨_, _, cx', by rw [hy]; exact hrun, h1, h2, h3, h4, h5⟩
  rcases e2 with ⟨v1, ⟨base, rfl⟩, _, rfl⟩ | ⟨g, m0, cap, ad, v1, rfl, v3, v4⟩
  · -- a nil slice
    have hcs0 : b.cs.take (0 * i.size) = [] := by simp
    by_cases hm : m = 0
    · subst hm
      have hnil : news = [] := List.eq_nil_of_length_eq_zero (by simpa using hsrc.num)
      subst hnil
      have hxs0 : xs = [] := List.eq_nil_of_length_eq_zero hxs.length.symm
      subst hxs0
      refine ⟨.slice base 0 0, w, cx.add k (ver + 1) p, ?_, ?_, rfl, ?_, HeapEq.refl _ _, ?_⟩
      · rw [run_append_in ht hj hsrc' (by omega)]
        cases base <;> simp [storeCells]
      · exact Cx.add_le (.inl (by
          cases hp : cx.pl k (ver + 1) with
          | none => rfl
          | some q => have := (hs.plok _ _ _ hp).2 b q1.1; omega))
      · have hbn : b.rng p = [] := by simp [Blk.rng, v1]
        refine hs.turn q1 hbz (Fr.refl w _) { b with n := 0 + 0, cs := b.cs.take (0 * i.size) ++ [], ver := ver + 1 } p (.inr (by simp [hv])) cx.R (fun _ h => h) (fun _ h => .inl h) (.inl ⟨hbr, ⟨[], ⟨by simp, .inl ⟨v1, rfl⟩⟩, by simp [TRl]⟩, q3.info, by simp⟩) (by simp [Blk.rng, v1])
      · unfold VX; exact ⟨p, Cx.add_get _ _ _ _, .inl ⟨v1, ⟨base, rfl⟩, rfl, rfl⟩⟩
    · exact hnew base 0 [] rfl (fun w1 _ => by cases base <;> simp [Builtin.firstCells, loadCells, loadCellsFrom]) (by omega) (by rw [hcs0]; simp [TRl]) (by simp)
  · have had := v4 (.inr rfl)
    simp at had
    subst had
    rcases q3.v with ⟨k1, _⟩ | ⟨g', cap', cur, k1, k2, k3, k4, k5, k6, k7⟩
    · rw [v1] at k1; cases k1
    · rw [v1] at k1
      simp only [Value.slice.injEq, Option.some.injEq, Addr.mk.injEq, and_true] at k1
      obtain ⟨rfl, _, rfl⟩ := k1
      have hnc : n * i.size ≤ b.n * p.sz := by rw [hpsz]; exact Nat.mul_le_mul_right _ hnb
      have hbc : b.n * p.sz ≤ cap * p.sz := Nat.mul_le_mul_right _ k3
      have htk : TRl cx.R w (b.cs.take (n * i.size)) (cur.toList.take (n * i.size)) := by
        have := k6.take (n * i.size)
        rw [List.take_take, Nat.min_eq_left hnc] at this
        exact this
      have hol : (cur.toList.take (n * i.size)).length = n * i.size := by simp; omega
      have hcell : ∀ w1 : World, w1.heap = w.heap → ∀ j', w1.cell? ⟨g, j', none⟩ = cur[j']? := fun w1 hw j' => cell_of_row w1 g j' cur b.t (0, 0) (by rw [hw]; exact k2)
      by_cases hroom : n + m ≤ cap
      · have hrun := run_append_in (ty := ty) (base := some ⟨g, 0, none⟩) ht hj hsrc' hroom
        have hfit' : n * i.size + news.length ≤ cur.size := by rw [hsrc.num, k5, hpsz, ← Nat.add_mul]; exact Nat.mul_le_mul_right _ hroom
        have hst := run_storeCells_at P g (n * i.size) b.t news 0 cur w k2 (by simpa using hfit') hsrc.one
        simp only [Nat.add_zero] at hst
        let arr' := (cur.toList.take (n * i.size) ++ news ++ cur.toList.drop (n * i.size + news.length)).toArray
        have hsz' : arr'.size = cur.size := by simp [arr']; simp at hol; omega
        have hf : Fr w (w.setRow g arr') (b.rng p) := Fr.setRow k2 hsz' _ fun j' hj' => absurd ⟨.blk g, by simp [Blk.rng, v1], rfl⟩ hj'
        obtain ⟨cx', h1, h2, h3, h4, h5⟩ := done _ ⟨_, _⟩ _ cap g arr' hf rfl rfl (setRow_heap w g cur arr' b.t (0, 0) k2) hroom k4 (by rw [hsz', k5, hpsz]) (by
          have e : arr'.toList.take ((n + m) * i.size) = cur.toList.take (n * i.size) ++ news := by
            simp only [arr']
            have : (n + m) * i.size = (cur.toList.take (n * i.size) ++ news).length := by rw [List.length_append, hol, hsrc.num, Nat.add_mul]
            rw [this]; exact List.take_left
          rw [e]; exact htk.append hxs) (.inl (by simp [Blk.rng, v1]))
        refine ⟨_, _, cx', ?_, h1, h2, h3, h4, h5⟩
        rw [Nat.sub_zero, hrun]
        simp only [Addr.add_lit, Nat.zero_add, hj2, hst, Result.andThen_ok]
        rfl
      · refine hnew (some ⟨g, 0, none⟩) (cap - 0) (cur.toList.take (n * i.size)) rfl (fun w1 hw => ?_) (by omega) htk hol
        exact run_firstCells_some w1 j.size n ⟨g, 0, none⟩ n (cap - 0) _ (by rw [hol, hj2]) fun j' v hj' => by
          rw [Addr.add_lit, Nat.zero_add, hcell w1 hw]
          rw [List.getElem?_take] at hj'
          split at hj'
          · simpa using hj'
          · cases hj'
end
end Go.Lift
