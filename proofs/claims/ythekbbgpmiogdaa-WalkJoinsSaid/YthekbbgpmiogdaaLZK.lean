/- One operation: the machine does what the evaluator says (part 1). -/
import Derived.Test.YthekbbgpmiogdaaLZJ
namespace Go.Lift
open Go Go.RowKit

section
variable {P : Program} {TT : TTab} {fx : Fx} {cx : Cx} {σ : St} {a : Act} {w : World} {o : Oper} {K : St → Prop} {next : Act → World → Prop} {Q : Exit → Act → World → Prop}

/-- what is asked of the rest -/
def Nx (P : Program) (fx : Fx) (cx : Cx) (K : St → Prop) (next : Act → World → Prop) : Prop := ∀ σ' cx' a' w', K σ' → cx.le cx' → Sim P fx cx' σ' a' w' → next a' w'

theorem step_move {x : Operand} (ho : o.op = .move x ∨ o.op = .assign x) (hs : Sim P fx cx σ a w) (hK : ob (ev σ x) fun v => fin o σ v σ.L K) (hn : Nx P fx cx K next) : o.wp P a w next Q := by
  obtain ⟨v, h1, h2⟩ := ob_elim hK
  refine pure_sound hs (y := a.eval x) ?_ (ev_sound hs.s h1) h2 hn
  rcases ho with ho | ho <;> simp [execOp, ho]
theorem step_pick {c x y : Operand} {t : Bool} {v : IV} (ho : o.op = .pick c x y) (hs : Sim P fx cx σ a w) (hc : ev σ c = some (.v (.bool t))) (hv : (if t = true then ev σ x else ev σ y) = some v) (h2 : fin o σ v σ.L K) (hn : Nx P fx cx K next) : o.wp P a w next Q := by
  have e := VX.v_inv (ev_sound hs.s hc)
  cases t
  · refine pure_sound hs (y := a.eval y) ?_ (ev_sound hs.s (by simpa using hv)) h2 hn
    simp [execOp, ho, e, asBool]
  · refine pure_sound hs (y := a.eval x) ?_ (ev_sound hs.s (by simpa using hv)) h2 hn
    simp [execOp, ho, e, asBool]
theorem step_assign_nil {e : TypeId} {ie : TI} (htt : TTok P TT) (ho : o.op = .assign (.const (.slice none 0 0))) (hs : Sim P fx cx σ a w) (he : TT e = some ie) (h2 : fin o σ (.sl σ.L.length 0 0 0) (σ.L ++ [some (nilRow e ie.flat)]) K) (hn : Nx P fx cx K next) : o.wp P a w next Q := by
  have hi := htt _ _ he
  obtain ⟨cx', k1, k0, k2, k3⟩ := push_nil hs.m hi hi.pos
  exact fin_sound hs.s (y := .slice none 0 0) (by simp [execOp, ho, Act.eval]) k1 k2 (HeapEq.refl _ _) k3 h2 hn

theorem run_zeroValue {t : TypeId} {j : TypeInfo} {z : Value} (hj : P.info? t = some j) (hz : j.zero = some z) : (zeroValue t).run P w = .ok z w := by
  simp [zeroValue, typeInfo, hj, hz]
theorem step_alloc {t : TypeId} {i : TI} {cs : List IV} {rs : List (Option Blk)} (htt : TTok P TT) (ho : o.op = .alloc t) (hs : Sim P fx cx σ a w) (ht : TT t = some i) (hz : zeroObj σ.L TT i.zero = some (cs, rs))
    (h2 : fin o σ (.ptr (σ.L.length + rs.length) 0 0) (σ.L ++ rs ++ [some (objBlk t cs)]) K) (hn : Nx P fx cx K next) : o.wp P a w next Q := by
  obtain ⟨j, hj, _, _, z, hz1, hz2⟩ := (htt _ _ ht).info
  obtain ⟨cx1, k1, k0, k2, k3, k4⟩ := zeroObj_sound htt hs.m hz hz2 (fun _ _ e i' _ hi' => (htt _ _ hi').pos)
  obtain ⟨cx2, l1, l0, l2, l3, l4⟩ := push_obj k2 t k3 k4
  refine fin_sound (w' := w.alloc (.cells z.cells t)) (y := .pointer (some ⟨w.heap.size, 0, none⟩)) hs.s ?_ (Cx.le_trans k1 l1) ?_ ?_ ?_ h2 hn
  · simp [execOp, ho, Instr.alloc, run_zeroValue hj hz1, newVar, newRow]
  · simpa using l2
  · have := l3; rw [k0] at this; simpa using this
  · have := l4; simpa using this
theorem VXl.one_of {v : IV} {y : Value} (h : VX cx w v y) (hv : isCell v = true) : VXl cx w (cellsOf v) y.cells.toList ∧ ∀ z ∈ y.cells.toList, z.oneCell' = true := by
  have sc : ∀ {v : IV} {y : Value}, VX cx w v y → isScalar v = true → y.oneCell' = true := by
    intro v y h hv
    cases v <;> simp [isScalar] at hv <;> unfold VX at h
    · subst h; exact hv
    · obtain ⟨b, rfl⟩ := h; rfl
    · unfold TR at h; obtain ⟨b, c, rfl, _⟩ := h; rfl
    · obtain ⟨p, _, h⟩ := h
      rcases h with ⟨_, ⟨b, rfl⟩, _⟩ | ⟨_, _, _, _, _, rfl, _⟩ <;> rfl
    · obtain ⟨p, _, _, _, _, rfl⟩ := h; rfl
    · obtain ⟨arr, rfl, _⟩ := h; rfl
  by_cases hA : ∃ cs, v = .agg cs
  · obtain ⟨cs, rfl⟩ := hA
    unfold VX at h
    obtain ⟨arr, rfl, h1, h2⟩ := h
    exact ⟨h1, h2⟩
  · have hv' : isScalar v = true := by cases v <;> first | exact absurd ⟨_, rfl⟩ hA | simpa [isCell] using hv
    have h1 := sc h hv'
    have hc : cellsOf v = [v] := by cases v <;> first | exact absurd ⟨_, rfl⟩ hA | rfl
    have hy : y.cells = #[y] := by cases y <;> first | rfl | (simp [Value.oneCell'] at h1)
    rw [hc, hy]
    exact ⟨VXl.cons h VXl.nil, by simp [h1]⟩
theorem step_box {t : TypeId} {x : Operand} {i : TI} {v : IV} {cs : List IV} {rs : List (Option Blk)} (htt : TTok P TT) (ho : o.op = .box t x) (hs : Sim P fx cx σ a w) (hv : ev σ x = some v)
    (hsc : isCell v = true) (hz : rowObj σ.L TT i.zero (cellsOf v) = some (cs, rs))
    (h2 : fin o σ (.ptr (σ.L.length + rs.length) 0 0) (σ.L ++ rs ++ [some (objBlk t cs)]) K) (hn : Nx P fx cx K next) : o.wp P a w next Q := by
  obtain ⟨e1, e2⟩ := VXl.one_of (ev_sound hs.s hv) hsc
  obtain ⟨cx1, k1, k0, k2, k3⟩ := rowObj_sound htt hs.m hz e1 e2 (fun _ _ e i' _ hi' => (htt _ _ hi').pos)
  obtain ⟨cx2, l1, l0, l2, l3, l4⟩ := push_obj k2 t k3 e2
  refine fin_sound (w' := w.alloc (.cells (a.eval x).cells t)) (y := .pointer (some ⟨w.heap.size, 0, none⟩)) hs.s ?_ (Cx.le_trans k1 l1) ?_ ?_ ?_ h2 hn
  · simp [execOp, ho, Instr.box, newVar, newRow]
  · simpa using l2
  · have := l3; rw [k0] at this; simpa using this
  · have := l4; simpa using this
theorem step_load {t : TypeId} {x : Operand} {i : TI} {k ver off : Nat} {b : Blk} {v : IV} (htt : TTok P TT) (ho : o.op = .load t x) (hs : Sim P fx cx σ a w) (ht : TT t = some i) (hx : ev σ x = some (.ptr k ver off))
    (hb : blkAt σ.L k ver = some b) (hv : loadIV i b.cs off = some v) (h2 : fin o σ v σ.L K) (hn : Nx P fx cx K next) : o.wp P a w next Q := by
  obtain ⟨u, r1, r2⟩ := load_sound hs (htt _ _ ht) hb (ev_sound hs.s hx) hv (htt _ _ ht).pos
  exact pure_sound hs (by simp [execOp, ho, r1]) r2 h2 hn
theorem step_load_ro {t : TypeId} {x : Operand} {i : TI} {off : Nat} {cs : List IV} {v : IV} (htt : TTok P TT) (ho : o.op = .load t x) (hs : Sim P fx cx σ a w) (ht : TT t = some i) (hx : ev σ x = some (.rp cs off))
    (hv : loadIV i cs off = some v) (h2 : fin o σ v σ.L K) (hn : Nx P fx cx K next) : o.wp P a w next Q := by
  obtain ⟨u, r1, r2⟩ := load_ro_sound (htt _ _ ht) (ev_sound hs.s hx) hv (htt _ _ ht).pos
  exact pure_sound hs (by simp [execOp, ho, r1]) r2 h2 hn
theorem TR_of_tree {v : IV} {y : Value} (h : VX cx w v y) (ht : isTree v = true) : TR cx.R w v y ∧ y.oneCell' = true := by
  cases v <;> simp [isTree] at ht <;> unfold VX at h
  · subst h; exact ⟨by simp [TR], ht⟩
  · obtain ⟨b, rfl⟩ := h; exact ⟨by simp [TR], rfl⟩
  · refine ⟨h, ?_⟩
    unfold TR at h; obtain ⟨b, c, rfl, _⟩ := h; rfl
theorem TRl_of_tree : ∀ {vs : List IV} {ys : List Value}, VXl cx w vs ys → vs.all isTree = true → TRl cx.R w vs ys
  | [], ys, h, _ => by unfold VXl at h; unfold TRl; exact h
  | v :: vs, ys, h, ht => by
    unfold VXl at h; unfold TRl
    obtain ⟨y, ys', h1, h2, h3⟩ := h
    simp at ht
    exact ⟨y, ys', h1, TR_of_tree h2 ht.1, TRl_of_tree h3 (by simpa using ht.2)⟩
theorem all_isV {vs : List IV} (h : vs.all isV = true) : ∀ z ∈ vs, ∃ q, z = .v q := by
  intro z hz
  have := List.all_eq_true.1 h z hz
  cases z <;> simp [isV] at this
  exact ⟨_, rfl⟩
theorem step_store {t : TypeId} {x y : Operand} {i : TI} {k ver off : Nat} {b : Blk} {v : IV} (htt : TTok P TT) (ho : o.op = .store t x y) (hs : Sim P fx cx σ a w) (ht : TT t = some i) (hx : ev σ x = some (.ptr k ver off)) (hy : ev σ y = some v)
    (hb : blkAt σ.L k ver = some b) (hz : b.frz = false) (hl : (cellsOf v).length = i.size) (hl2 : off + i.size ≤ b.cs.length) (hsc : isCell v = true)
    (hr : b.row = true → (cellsOf v).all isTree = true ∧ (b.fl = true → (cellsOf v).all isV = true)) (hd : o.dst = none) (h2 : K { σ with L := σ.L.set k (some { b with cs := putAt b.cs off (cellsOf v) }) }) (hn : Nx P fx cx K next) : o.wp P a w next Q := by
  obtain ⟨e1, e2⟩ := VXl.one_of (ev_sound hs.s hy) hsc
  obtain ⟨w', r1, r2, r3⟩ := store_sound hs (htt _ _ ht) hb hz (ev_sound hs.s hx) e1 e2 hl hl2 (htt _ _ ht).pos fun hbr => ⟨TRl_of_tree e1 (hr hbr).1, fun hf => all_isV ((hr hbr).2 hf)⟩
  unfold Oper.wp
  have hrun : (execOp a.eval o).run P w = .ok .skip w' := by simp [execOp, ho, r1]
  rw [hrun]
  show next (a.put o.dst undef) w'
  rw [hd]
  exact hn _ cx _ _ h2 (Cx.le_refl _) ⟨r2, hs.s.mono (fun _ _ h => h) rfl (Cx.le_refl _) r3⟩
theorem step_nilCheck {x : Operand} {v : IV} (ho : o.op = .nilCheck x) (hs : Sim P fx cx σ a w) (hx : ev σ x = some v) (hv : (∃ k ver p, v = .ptr k ver p) ∨ (∃ cs p, v = .rp cs p) ∨ ∃ f cs, v = .fn (.func f) cs)
    (h2 : fin o σ v σ.L K) (hn : Nx P fx cx K next) : o.wp P a w next Q := by
  have h := ev_sound hs.s hx
  refine pure_sound hs (y := a.eval x) ?_ h h2 hn
  rcases hv with ⟨k, ver, p, rfl⟩ | ⟨cs, p, rfl⟩ | ⟨f, cs, rfl⟩ <;> unfold VX at h
  · obtain ⟨p, _, _, _, _, e⟩ := h; simp [execOp, ho, e]
  · obtain ⟨b, d, e, _⟩ := h; simp [execOp, ho, e]
  · obtain ⟨arr, e, _⟩ := h; simp [execOp, ho, e]
theorem step_binOp {op : BinOp} {t t' : TypeId} {x y : Operand} {p q z : Value} (ho : o.op = .binOp op t x y t') (hs : Sim P fx cx σ a w) (hx : ev σ x = some (.v p)) (hy : ev σ y = some (.v q)) (hz : pbin op p q = some z)
    (h2 : fin o σ (.v z) σ.L K) (hn : Nx P fx cx K next) : o.wp P a w next Q := by
  have e1 := VX.v_inv (ev_sound hs.s hx)
  have e2 := VX.v_inv (ev_sound hs.s hy)
  exact pure_sound hs (y := z) (by simp [execOp, ho, e1, e2, pbin_guard hz, pbin_sound hz]) (by simp [VX]) h2 hn
theorem step_boolEq {op : BinOp} {t t' : TypeId} {x y : Operand} {p q : Bool} {z : Value} {i : TI} (htt : TTok P TT) (ho : o.op = .binOp op t x y t') (hs : Sim P fx cx σ a w) (hx : ev σ x = some (.v (.bool p))) (hy : ev σ y = some (.v (.bool q)))
    (ht : TT t = some i) (hd : i.desc.isBool = true) (hz : pboolEq op p q = some z) (h2 : fin o σ (.v z) σ.L K) (hn : Nx P fx cx K next) : o.wp P a w next Q := by
  have e1 := VX.v_inv (ev_sound hs.s hx)
  have e2 := VX.v_inv (ev_sound hs.s hy)
  obtain ⟨d, d1, d2, _⟩ := (htt _ _ ht).desc
  have : P.underlying t = some .bool := by
    cases hh : i.desc <;> rw [hh] at hd d2 <;> simp [TD.isBool] at hd
    simp only [DescOk] at d2
    rw [d1, d2]
  exact pure_sound hs (y := z) (by simp [execOp, ho, e1, e2, eqGuard_run (P := P) (op := op) (t := t) (x := x) (y := y) (u := .bool p) (v := .bool q) rfl, pboolEq_sound this hz]) (by simp [VX]) h2 hn
theorem eqCells_vals : ∀ {ks : List CK} {xs ys : List IV} {us vs : List Value} {r : Bool}, eqCells ks xs ys = some r → VXl cx w xs us → VXl cx w ys vs → eqVals ks us vs = some r := by
  intro ks
  induction ks with
  | nil =>
    intro xs ys us vs r h hu hv
    cases xs <;> cases ys <;> simp [eqCells] at h
    unfold VXl at hu hv; subst hu hv; simpa [eqVals] using h
  | cons k ks ih =>
    intro xs ys us vs r h hu hv
    cases xs with
    | nil => cases k <;> simp [eqCells] at h
    | cons x xs =>
    cases ys with
    | nil => cases k <;> cases x <;> simp [eqCells] at h
    | cons y ys =>
    unfold VXl at hu hv
    obtain ⟨u, us', rfl, hu1, hu2⟩ := hu
    obtain ⟨v, vs', rfl, hv1, hv2⟩ := hv
    cases x with
    | v x =>
      cases y with
      | v y =>
        have eu := VX.v_inv hu1
        have ev' := VX.v_inv hv1
        subst eu ev'
        by_cases hk : k = .complex
        · subst hk
          cases u <;> cases v <;> try (simp [eqCells] at h; done)
          rename_i k a b k' c d
          cases k <;> cases k' <;> try (simp [eqCells] at h; done)
          rw [eqCells, Option.map_eq_some_iff] at h
          obtain ⟨r', h1, rfl⟩ := h
          rw [eqVals, ih h1 hu2 hv2]; rfl
        cases k <;> first | exact absurd rfl hk | skip
        all_goals cases u <;> try (simp [eqCells] at h; done)
        all_goals cases v <;> try (simp [eqCells] at h; done)
        all_goals
          simp [eqCells] at h
          simp [eqVals]
        · obtain ⟨h0, h⟩ := h
          exact ⟨h0, h.imp (fun h => ⟨ih h.1 hu2 hv2, h.2⟩) (fun h => ⟨ih h.1 hu2 hv2, h.2⟩)⟩
        · exact h.imp (fun h => ⟨ih h.1 hu2 hv2, h.2⟩) (fun h => ⟨ih h.1 hu2 hv2, h.2⟩)
        · exact h.imp (fun h => ⟨ih h.1 hu2 hv2, h.2⟩) (fun h => ⟨ih h.1 hu2 hv2, h.2⟩)
      | _ => cases k <;> cases x <;> simp [eqCells] at h
    | _ => cases k <;> simp [eqCells] at h
theorem step_aggEq {op : BinOp} {t t' : TypeId} {x y : Operand} {xs ys : List IV} {i : TI} {ks : List CK} {r : Bool} (htt : TTok P TT) (ho : o.op = .binOp op t x y t') (hs : Sim P fx cx σ a w) (hx : ev σ x = some (.agg xs)) (hy : ev σ y = some (.agg ys))
    (ht : TT t = some i) (hk : i.eqk = some ks) (hr : eqCells ks xs ys = some r) {z : Bool} (hz : aggEq op r = some z) (h2 : fin o σ (.v (.bool z)) σ.L K) (hn : Nx P fx cx K next) : o.wp P a w next Q := by
  have e1 := ev_sound hs.s hx
  have e2 := ev_sound hs.s hy
  unfold VX at e1 e2
  obtain ⟨ax, ex, x1, _⟩ := e1
  obtain ⟨ay, ey, y1, _⟩ := e2
  obtain ⟨g1, g2⟩ := (htt _ _ ht).eqk ks hk
  have hrun := g2 w ax ay r (eqCells_vals hr x1 y1)
  refine pure_sound hs (y := .bool z) ?_ (by simp [VX]) h2 hn
  cases op <;> simp only [aggEq, Option.some.injEq, reduceCtorEq] at hz
  · rw [← hz]; simp [execOp, ho, ex, ey, eqGuard, g1, binOp, Op.equal, hrun]
  · rw [← hz]; simp [execOp, ho, ex, ey, eqGuard, g1, binOp, Op.equal, hrun]
theorem step_unOp {op : UnOp} {t : TypeId} {x : Operand} {p z : Value} (ho : o.op = .unOp op t x) (hs : Sim P fx cx σ a w) (hx : ev σ x = some (.v p)) (hz : pun op p = some z) (h2 : fin o σ (.v z) σ.L K) (hn : Nx P fx cx K next) : o.wp P a w next Q := by
  have e1 := VX.v_inv (ev_sound hs.s hx)
  exact pure_sound hs (y := z) (by simp [execOp, ho, e1, pun_sound hz]) (by simp [VX]) h2 hn
end
end Go.Lift
