/- More operations: 'make' of a slice, 'copy'. -/
import Derived.Test.YthekbbgpmiogdaaLY6
import Derived.Laws.MakeOwn
namespace Go.Lift
open Go Go.RowKit

/-- a row of n zero elements -/
def zrow (zs : List ZC) (n : Nat) : List IV := (List.replicate n (zs.map ZC.iv)).flatten

def stepX (TT : TTab) (o : Oper) (σ : St) (K : St → Prop) : Prop :=
  match o.op with
  | .makeSlice t l c => ob (TT t) fun i => match i.desc with
    | .slice e => ob (TT e) fun ie => ob (ev σ l) fun l => ob (ev σ c) fun c => match l, c with
      | .v (.int _ l), .v (.int _ c) => (0 ≤ l ∧ l ≤ c ∧ (ie.bytes : Int) * c ≤ 281474976710656 ∧ c ≤ 9223372036854775807) ∧ (ie.flat = true → (ie.zero.map ZC.iv).all isV = true) ∧
          fin o σ (.sl σ.L.length 0 0 l.toNat) (σ.L ++ [some ⟨true, e, l.toNat, ie.flat, zrow ie.zero l.toNat, 0, false⟩]) K
      | _, _ => False
    | _ => False
  | .call c => match c.callee with
    | .builtin .copy => match c.argTypes.toList with
      | [t, u] => ob (evs σ c.args.toList) fun xs => match xs with
        | [.sl k ver off n, y] => ob (TT t) fun it => match it.desc with
          | .slice e => ob (TT e) fun ie => ob (srcOf σ.L TT u e ie.size y) fun (m, cs) => ob (blkAt σ.L k ver) fun b =>
              (b.frz = false ∧ b.row = true ∧ b.t = e ∧ m ≤ n ∧ off + n ≤ b.n) ∧ (b.fl = true → cs.all isV = true) ∧
              fin o σ (.v (.int .i64 m)) (σ.L.set k (some { b with cs := putAt b.cs (off * ie.size) cs })) K
          | _ => False
        | _ => False
      | _ => False
    | _ => False
  | _ => False

theorem replicate_flatten_get {α : Type} (l : List α) (hl : 0 < l.length) : ∀ (n i : Nat), (List.replicate n l).flatten[i]? = if i < n * l.length then l[i % l.length]? else none
  | 0, i => by simp
  | n + 1, i => by
    rw [List.replicate_succ, List.flatten_cons, List.getElem?_append]
    split
    · rename_i h
      rw [if_pos (by rw [Nat.succ_mul]; omega), Nat.mod_eq_of_lt h]
    · rename_i h
      rw [replicate_flatten_get l hl n (i - l.length)]
      have e : (i - l.length) % l.length = i % l.length := by
        have : i = (i - l.length) + l.length := by omega
        rw [this, Nat.add_mod_right]; congr 1; omega
      rw [e]
      by_cases h2 : i - l.length < n * l.length
      · rw [if_pos h2, if_pos (by rw [Nat.succ_mul]; omega)]
      · rw [if_neg h2, if_neg (by rw [Nat.succ_mul]; omega)]
theorem zOk.get {R : Nat → Prop} {w : World} : ∀ {zs : List ZC} {ys : List Value} (_ : zOk zs ys) (i : Nat) (x : IV), (zs.map ZC.iv)[i]? = some x → ∃ y, ys[i]? = some y ∧ TR R w x y ∧ y.oneCell' = true
  | [], _, _, i, x, h => by simp at h
  | z :: zs, ys, hz, i, x, h => by
    unfold zOk at hz
    obtain ⟨y, ys', rfl, h1, h2⟩ := hz
    cases i with
    | zero =>
      simp at h; subst h
      refine ⟨y, rfl, ?_⟩
      cases z with
      | v v => obtain ⟨rfl, h1⟩ := h1; exact ⟨by simp [ZC.iv, TR], h1⟩
      | row e => subst h1; exact ⟨by simp [ZC.iv, TR], rfl⟩
    | succ i => simpa using zOk.get h2 i x (by simpa using h)

section
variable {P : Program} {TT : TTab} {fx : Fx} {cx : Cx} {σ : St} {a : Act} {w : World} {o : Oper} {K : St → Prop} {next : Act → World → Prop} {Q : Exit → Act → World → Prop}

theorem make_step {t e : TypeId} {x y : Operand} {i ie : TI} {kl kc : IntKind} {l c : Int} (htt : TTok P TT) (ho : o.op = .makeSlice t x y) (hs : Sim P fx cx σ a w) (h1 : TT t = some i) (hd : i.desc = .slice e) (he : TT e = some ie)
    (hx : ev σ x = some (.v (.int kl l))) (hy : ev σ y = some (.v (.int kc c))) (c1 : 0 ≤ l ∧ l ≤ c ∧ (ie.bytes : Int) * c ≤ 281474976710656 ∧ c ≤ 9223372036854775807) (c2 : ie.flat = true → (ie.zero.map ZC.iv).all isV = true)
    (hK : fin o σ (.sl σ.L.length 0 0 l.toNat) (σ.L ++ [some ⟨true, e, l.toNat, ie.flat, zrow ie.zero l.toNat, 0, false⟩]) K) (hn : Nx P fx cx K next) : o.wp P a w next Q := by
  obtain ⟨g1, g2, g3, g4⟩ := c1
  have hi := htt _ _ he
  obtain ⟨j, hj, hj2, hj3, z, hz1, hz2⟩ := hi.info
  have hrun := run_make (P := P) w t e j z (slice_under (htt _ _ h1) hd) hj hz1 kl kc l c g1 g2 (by rw [hj3]; exact g3) g4
  have e1 := VX.v_inv (ev_sound hs.s hx)
  have e2 := VX.v_inv (ev_sound hs.s hy)
  have hzl : z.cells.size = ie.size := by
    have := hz2.length
    rw [hi.zlen] at this
    rw [← this]; simp
  have hcur : (madeCells z.cells (c.toNat * j.size)).size = c.toNat * ie.size := by rw [size_madeCells, hj2]
  have htr : TRl cx.R w (zrow ie.zero l.toNat) ((madeCells z.cells (c.toNat * j.size)).toList.take (l.toNat * ie.size)) := by
    have hzm : (ie.zero.map ZC.iv).length = ie.size := by simp [hi.zlen]
    have hpos : 0 < (ie.zero.map ZC.iv).length := by rw [hzm]; exact hi.pos
    have hle : l.toNat * ie.size ≤ c.toNat * ie.size := Nat.mul_le_mul_right _ (by omega)
    have hlen : (zrow ie.zero l.toNat).length = l.toNat * ie.size := by unfold zrow; simp [hi.zlen]
    refine TRl.of_get ?_ fun q x y hx hy => ?_
    · rw [hlen, List.length_take, Array.length_toList, hcur]; omega
    · have hq : q < l.toNat * ie.size := by rw [← hlen]; exact (List.getElem?_eq_some_iff.1 hx).1
      unfold zrow at hx
      rw [replicate_flatten_get _ hpos, hzm, if_pos hq] at hx
      obtain ⟨y', y1, y2, y3⟩ := zOk.get (R := cx.R) (w := w) hz2 _ x hx
      rw [List.getElem?_take, if_pos hq] at hy
      have hq2 : q < c.toNat * j.size := by rw [hj2]; omega
      have : y = y' := by
        have hm : q % ie.size < z.cells.size := by rw [hzl]; exact Nat.mod_lt _ hi.pos
        simp only [Array.getElem?_toList] at y1 hy
        simp [madeCells, hq2, hzl] at hy
        rw [Array.getElem?_eq_getElem hm] at y1
        cases y1
        rw [← hy]
        simp [hm]
      subst this
      exact ⟨y2, y3⟩
  have hlc : l.toNat ≤ c.toNat := by omega
  have hm : c.toNat ≤ maxLen := by unfold maxLen; omega
  obtain ⟨cx', k1, k2, k3, k4, k5⟩ := push_row hs.m (Fr.alloc_nil w (.cells (madeCells z.cells (c.toNat * j.size)) e)) hi hi.pos (heap_alloc_at w _) hlc hm hcur (fl := ie.flat) htr (fun hf => by
    intro x hx
    have : x ∈ ie.zero.map ZC.iv := by
      unfold zrow at hx
      simp only [List.mem_flatten, List.mem_replicate] at hx
      obtain ⟨l', ⟨_, rfl⟩, h⟩ := hx; exact h
    exact all_isV (c2 hf) x this)
  exact fin_sound hs.s (y := .slice (some ⟨w.heap.size, 0, none⟩) l.toNat c.toNat) (by simp [execOp, ho, e1, e2, hrun]) k1 k3 k4 k5 hK hn
/-- cells of a row of the frame's, written in place -/
theorem row_write (hs : Mem P fx cx σ w) {k ver : Nat} {b : Blk} {p : Plc} (q1 : At cx σ k b p) (hz : b.frz = false) (hr : b.row = true) (q3 : RowOk P cx w p b) {g cap : Nat} {arr : Array Value}
    (v1 : p.v = .slice (some ⟨g, 0, none⟩) b.n cap) (v2 : w.heap[g]? = some (.cells arr b.t (0, 0))) (v3 : b.n ≤ cap) (v4 : cap ≤ maxLen) (v5 : arr.size = cap * p.sz) {o : Nat} {xs : List IV} {us : List Value} (hxs : TRl cx.R w xs us) (hl : o + us.length ≤ b.n * p.sz)
    (hfl : b.fl = true → ∀ x ∈ xs, ∃ z, x = .v z) :
    Mem P fx cx { σ with L := σ.L.set k (some { b with cs := putAt b.cs o xs }) } (w.setRow g (arr.toList.take o ++ us ++ arr.toList.drop (o + us.length)).toArray) ∧ HeapEq cx.R w (w.setRow g (arr.toList.take o ++ us ++ arr.toList.drop (o + us.length)).toArray) := by
  have hcs : b.cs.length = b.n * p.sz ∧ TRl cx.R w b.cs (arr.toList.take (b.n * p.sz)) := by
    rcases q3.v with ⟨e, _, hc⟩ | ⟨g', cap', cur, w1, w2, w3, w4, w5, w6, w7⟩
    · rw [v1] at e; cases e
    · rw [v1] at w1; cases w1
      rw [v2] at w2; cases w2
      exact ⟨w7, w6⟩
  obtain ⟨hcl, htr⟩ := hcs
  have hul := hxs.length
  have hcap : b.n * p.sz ≤ arr.size := by rw [v5]; exact Nat.mul_le_mul_right p.sz v3
  let arr' := (arr.toList.take o ++ us ++ arr.toList.drop (o + us.length)).toArray
  have hsz : arr'.size = arr.size := by simp [arr']; omega
  have hget : ∀ j, arr'[j]? = if o ≤ j ∧ j < o + us.length then us[j - o]? else arr[j]? := fun j => by
    simp only [arr', List.getElem?_toArray]
    rw [List.getElem?_append, List.getElem?_append]
    simp only [List.length_append, List.length_take, Array.length_toList]
    have hmin : min o arr.size = o := by omega
    rw [hmin]
    by_cases c1 : j < o
    · rw [if_pos (by omega), if_pos c1, if_neg (by omega), List.getElem?_take, if_pos c1]; simp
    · by_cases c2 : j < o + us.length
      · rw [if_pos c2, if_neg c1, if_pos ⟨by omega, c2⟩]
      · rw [if_neg c2, if_neg (by omega), List.getElem?_drop]
        rw [show o + us.length + (j - (o + us.length)) = j by omega]; simp
  have hrng : ∀ c : List IV, ({ b with cs := c } : Blk).rng p = [.blk g] := fun c => by simp [Blk.rng, v1]
  have hfr : Fr w (w.setRow g arr') (b.rng p) := Fr.setRow v2 hsz _ fun j hj => by
    rw [hget j, if_neg]
    rintro ⟨c1, c2⟩
    exact hj ⟨.blk g, by simp [Blk.rng, v1], rfl⟩
  have hR : HeapEq cx.R w (w.setRow g arr') := fun bb hbb => hfr.hblk bb (hs.rlt bb hbb) fun oo ⟨x, hx, hh⟩ => (hs.nor k b p q1 x hx bb oo hh).1 hz hbb
  have hheap : (w.setRow g arr').heap[g]? = some (.cells arr' b.t (0, 0)) := setRow_heap w g arr arr' b.t (0, 0) v2
  have hlx : o + xs.length ≤ b.cs.length := by rw [hcl, ← hul]; exact hl
  have hok : BlkOk P cx (w.setRow g arr') p { b with cs := putAt b.cs o xs } := by
    refine .inl ⟨hr, ?_, q3.info, ?_⟩
    · refine ⟨arr'.toList.take (b.n * p.sz), ⟨?_, .inr ⟨g, cap, arr', v1, Nat.zero_le _, hheap, v3, v4, by rw [hsz]; exact v5, rfl⟩⟩, ?_⟩
      · simp; rw [hsz]; omega
      · refine TRl.of_get ?_ fun j x y hx hy => ?_
        · simp [putAt_length]; rw [hsz, hcl]; omega
        · have hj : j < b.cs.length := by rw [← putAt_length b.cs o xs]; exact (List.getElem?_eq_some_iff.1 hx).1
          rw [List.getElem?_take, if_pos (by omega)] at hy
          rw [putAt_get _ _ _ hlx] at hx
          have hy' : arr'[j]? = some y := by simpa using hy
          rw [hget j] at hy'
          by_cases c : o ≤ j ∧ j < o + xs.length
          · rw [if_pos c] at hx
            rw [if_pos (by omega)] at hy'
            obtain ⟨y', z1, z2, z3⟩ := hxs.get _ _ hx
            rw [z1] at hy'
            cases hy'
            exact ⟨TR.mono (fun _ h => h) hR _ _ z2, z3⟩
          · rw [if_neg c] at hx
            rw [if_neg (by omega)] at hy'
            obtain ⟨y', z1, z2, z3⟩ := htr.get _ _ hx
            rw [List.getElem?_take, if_pos (by omega)] at z1
            have z1' : arr[j]? = some y' := by simpa using z1
            rw [z1'] at hy'; cases hy'
            exact ⟨TR.mono (fun _ h => h) hR _ _ z2, z3⟩
    · intro hf x hx
      obtain ⟨j, hj, he⟩ := List.getElem_of_mem hx
      have hx' : (putAt b.cs o xs)[j]? = some x := by rw [List.getElem?_eq_getElem hj, he]
      rw [putAt_get _ _ _ hlx] at hx'
      split at hx'
      · exact hfl hf x (List.mem_of_getElem? hx')
      · exact q3.flat hf x (List.mem_of_getElem? hx')
  refine ⟨?_, hR⟩
  have := hs.turn q1 hz hfr { b with cs := putAt b.cs o xs } p (.inl ⟨rfl, rfl⟩) cx.R (fun _ h => h) (fun bb h => .inl h) (by rw [Cx.add_same q1.2]; exact hok) (by
    rw [hrng]
    intro x hx bb oo hh
    refine ⟨.inl ⟨x, by simpa [Blk.rng, v1] using hx, hh⟩, fun _ => (hs.nor k b p q1 x (by simpa [Blk.rng, v1] using hx) bb oo hh).1 hz, fun h => by rw [show ({ b with cs := putAt b.cs o xs } : Blk).frz = b.frz from rfl, hz] at h; cases h⟩)
  rw [show ({ cx.add k ({ b with cs := putAt b.cs o xs } : Blk).ver p with R := cx.R } : Cx) = cx from Cx.add_same q1.2] at this
  exact this
theorem copy_step {c : Call} {t u e : TypeId} {it ie : TI} {k ver off n m : Nat} {y : IV} {cs : List IV} {b : Blk} (htt : TTok P TT) (ho : o.op = .call c) (hcb : c.callee = .builtin .copy) (hs : Sim P fx cx σ a w) (hts : c.argTypes.toList = [t, u])
    (hx : evs σ c.args.toList = some [.sl k ver off n, y]) (h1 : TT t = some it) (hd : it.desc = .slice e) (he : TT e = some ie) (hsrc : srcOf σ.L TT u e ie.size y = some (m, cs)) (hb : blkAt σ.L k ver = some b)
    (c1 : b.frz = false ∧ b.row = true ∧ b.t = e ∧ m ≤ n ∧ off + n ≤ b.n) (c2 : b.fl = true → cs.all isV = true)
    (hK : fin o σ (.v (.int .i64 m)) (σ.L.set k (some { b with cs := putAt b.cs (off * ie.size) cs })) K) (hn : Nx P fx cx K next) : o.wp P a w next Q := by
  obtain ⟨g1, g2, g3, g4, g5⟩ := c1
  have hi := htt _ _ he
  obtain ⟨j, hj, hj2, hj3, zv, hz1, hz2⟩ := hi.info
  have hv := evs_sound hs.s hx
  obtain ⟨y1, ys, e1, v1, v2⟩ : ∃ y1 ys, c.args.toList.map a.eval = y1 :: ys ∧ VX cx w (.sl k ver off n) y1 ∧ VXl cx w [y] ys := by unfold VXl at hv; exact hv
  obtain ⟨y2, ys2, e2, v3, v4⟩ : ∃ y2 ys2, ys = y2 :: ys2 ∧ VX cx w y y2 ∧ VXl cx w [] ys2 := by unfold VXl at v2; exact v2
  have e3 : ys2 = [] := by unfold VXl at v4; exact v4
  subst e3 e2
  have hargs : c.args.map a.eval = #[y1, y2] := by
    apply Array.ext'
    simpa using e1
  have hat : c.argTypes = #[t, u] := by rw [← Array.toArray_toList (xs := c.argTypes), hts]
  obtain ⟨news, hS, hT⟩ := srcOf_sound htt hs.m he v3 hsrc
  obtain ⟨p, q1, q2, q3⟩ := hs.m.atv hb
  obtain ⟨_, q3⟩ : b.row = true ∧ RowOk P cx w p b := by
    rcases q3 with h | ⟨hr, _⟩
    · exact h
    · rw [hr] at g2; cases g2
  obtain ⟨j', hj', hsz, hpos⟩ := q3.info
  rw [g3, hj] at hj'; cases hj'
  have hpsz : p.sz = ie.size := by rw [← hsz, hj2]
  obtain ⟨cs', hex⟩ := exec_builtin (a := a) ho hcb
  unfold VX at v1
  obtain ⟨p', r1, r2⟩ := v1
  rw [q2] at r1; cases r1
  have hmin : min m n = m := Nat.min_eq_left g4
  have hnum := hS.num
  have main : ∃ w', (Builtin.copy_ c.argTypes o.type (c.args.map a.eval)).run P w = .ok (.int .i64 m) w' ∧ Mem P fx cx { σ with L := σ.L.set k (some { b with cs := putAt b.cs (off * ie.size) cs }) } w' ∧ HeapEq cx.R w w' := by
    rw [hargs, hat]
    have hlen := hS.len w
    have hcel := hS.cells w rfl
    have hu := slice_under (htt _ _ h1) hd
    have hgo : goInt m = .int .i64 (m : Int) := rfl
    by_cases hm0 : news = []
    · have hm : cs = [] := by
        have := hT.length
        rw [hm0] at this
        exact List.eq_nil_of_length_eq_zero (by simpa using this.symm)
      subst hm
      have hset : σ.L.set k (some { b with cs := putAt b.cs (off * ie.size) [] }) = σ.L := by
        show σ.L.set k (some b) = σ.L
        have hk := (blkAt_some hb).1
        obtain ⟨hlt, hge⟩ := List.getElem?_eq_some_iff.1 hk
        exact List.ext_getElem? fun i => by
          rw [List.getElem?_set]
          split
          · rename_i e; subst e; exact hk.symm
          · rfl
      rw [hset]
      refine ⟨w, ?_, hs.m.sameL rfl, HeapEq.refl _ _⟩
      rcases r2 with ⟨_, ⟨ad, rfl⟩, _, rfl⟩ | ⟨g, mm, cap, ad, _, rfl, _⟩
      · obtain rfl : m = 0 := by omega
        cases ad <;> simp [Builtin.copy_, run_underlying hu, hlen, sizeOf, typeInfo, hj, hj2, hcel, hm0, storeCells, goInt]
      · simp [Builtin.copy_, run_underlying hu, hlen, hmin, sizeOf, typeInfo, hj, hj2, hcel, hm0, storeCells, hgo]
    · have hn0 : 0 < news.length := List.length_pos_iff.2 hm0
      have hmpos : 0 < m := by
        rcases Nat.eq_zero_or_pos m with h | h
        · rw [hnum, h] at hn0; simp at hn0
        · exact h
      rcases r2 with ⟨_, ⟨ad, rfl⟩, _, rfl⟩ | ⟨g, mm, cap, ad, r3, rfl, r4, r5⟩
      · omega
      · have had := r5 (.inl (by omega))
        subst had
        rcases q3.v with ⟨w1, _, _⟩ | ⟨g', cap', cur, w1, w2, w3, w4, w5, w6, w7⟩
        · rw [r3] at w1; cases w1
        · rw [r3] at w1
          cases w1
          have hle : off * p.sz + news.length ≤ b.n * p.sz := by
            rw [hnum, ← hpsz, ← Nat.add_mul]
            exact Nat.mul_le_mul_right _ (by omega)
          have hcapsz : b.n * p.sz ≤ cur.size := by rw [w5]; exact Nat.mul_le_mul_right _ w3
          have hst := run_storeCells_at P g (off * p.sz) b.t news 0 cur w w2 (by simp; omega) hS.one
          simp only [Nat.add_zero] at hst
          obtain ⟨m1, m2⟩ := row_write (ver := ver) hs.m q1 g1 g2 q3 (show p.v = .slice (some ⟨g, 0, none⟩) b.n cap from r3) w2 w3 w4 w5 hT hle (fun hf => all_isV (c2 hf))
          rw [hpsz] at m1 m2 hst
          refine ⟨_, ?_, m1, m2⟩
          simp [Builtin.copy_, run_underlying hu, hlen, hmin, sizeOf, typeInfo, hj, hj2, hcel, hpsz, hst, hgo]
  obtain ⟨w', hr, m1, m2⟩ := main
  exact fin_sound hs.s (y := .int .i64 m) (by rw [hex]; simp [builtin, hr]) (Cx.le_refl cx) m1 m2 (by simp [VX]) hK hn
theorem stepX_sound (htt : TTok P TT) (hs : Sim P fx cx σ a w) (hK : stepX TT o σ K) (hn : Nx P fx cx K next) : o.wp P a w next Q := by
  unfold stepX at hK
  split at hK
  · obtain ⟨i, t1, hK⟩ := ob_elim hK
    split at hK
    · obtain ⟨ie, t2, hK⟩ := ob_elim hK
      obtain ⟨l, t3, hK⟩ := ob_elim hK
      obtain ⟨c, t4, hK⟩ := ob_elim hK
      split at hK
      · exact make_step htt ‹_› hs t1 ‹_› t2 t3 t4 hK.1 hK.2.1 hK.2.2 hn
      · exact hK.elim
    · exact hK.elim
  · split at hK
    · split at hK
      · obtain ⟨xs, t1, hK⟩ := ob_elim hK
        split at hK
        · obtain ⟨it, t2, hK⟩ := ob_elim hK
          split at hK
          · obtain ⟨ie, t3, hK⟩ := ob_elim hK
            obtain ⟨⟨m, cs⟩, t4, hK⟩ := ob_elim hK
            obtain ⟨b, t5, hK⟩ := ob_elim hK
            exact copy_step htt ‹_› ‹_› hs ‹_› t1 t2 ‹_› t3 t4 t5 hK.1 hK.2.1 hK.2.2 hn
          · exact hK.elim
        · exact hK.elim
      · exact hK.elim
    · exact hK.elim
  · exact hK.elim
theorem IP.of_stepX {o : Oper} {K : St → Prop} {σ : St} (htt : TTok P TT) (h : stepX TT o σ K) : IP P fx o K σ :=
  fun _ _ _ _ _ hs hn => stepX_sound htt hs h fun σ1 cx' a' w' hK _ hs' => hn σ1 cx' a' w' hK hs'
theorem IL.stepX (htt : TTok P TT) {ops : Array Oper} {o : Oper} {l : List Oper} {σ σ' : St} {K : St → Prop} (hg : Gok ops σ o) (h : ∀ K : St → Prop, K σ' → Lift.stepX TT o σ K) (hr : IL P fx ops l K σ') : IL P fx ops (o :: l) K σ :=
  IL.ok hg (IP.of_stepX htt (h _ hr))
end
attribute [go_sem] Lift.stepX
end Go.Lift
