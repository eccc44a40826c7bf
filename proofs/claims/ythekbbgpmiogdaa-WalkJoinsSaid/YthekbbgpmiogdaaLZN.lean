/- One operation: the machine does what the evaluator says (part 4): builtins, literals, conversions. -/
import Derived.Test.YthekbbgpmiogdaaLZM
namespace Go.Lift
open Go Go.RowKit

section
variable {P : Program} {TT : TTab} {fx : Fx} {cx : Cx} {σ : St} {a : Act} {w : World} {o : Oper} {K : St → Prop} {next : Act → World → Prop} {Q : Exit → Act → World → Prop}

theorem exec_builtin {b : Builtin} {c : Call} (ho : o.op = .call c) (hb : c.callee = .builtin b) :
    ∃ cs, execOp a.eval o = (builtin b c.argTypes o.type cs (c.args.map a.eval)) := by
  refine ⟨c.args.map fun | .const _ => true | _ => false, ?_⟩
  simp only [execOp, ho, resolve, hb]
  rfl
theorem arr_of_list {α : Type} {xs : Array α} {l : List α} (h : xs.toList = l) : xs = l.toArray := by rw [← h]

theorem append_step {c : Call} (htt : TTok P TT) (ho : o.op = .call c) (hb : c.callee = .builtin .append) (hs : Sim P fx cx σ a w) {x y : IV} (hx : evs σ c.args.toList = some [x, y]) {t u : TypeId} (ht : c.argTypes.toList = [t, u])
    (hK : appendTo σ TT o t u x y K) (hn : Nx P fx cx K next) : o.wp P a w next Q := by
  have hargs := evs_sound hs.s hx
  unfold VXl at hargs
  obtain ⟨yx, ys', e1, hx1, h2⟩ := hargs
  unfold VXl at h2
  obtain ⟨yy, ys'', rfl, hy1, h3⟩ := h2
  unfold VXl at h3
  subst h3
  have hmap : c.args.map a.eval = #[yx, yy] := by
    apply Array.ext'
    rw [Array.toList_map, e1]
  have htys : c.argTypes = #[t, u] := arr_of_list ht
  obtain ⟨cs, hex⟩ := exec_builtin (a := a) ho hb
  have hexec : ∀ {y' w'}, (Builtin.append_ #[t, u] o.type #[yx, yy]).run P w = .ok y' w' → (execOp a.eval o).run P w = .ok (.value y') w' := fun h => by
    rw [hex, hmap, htys]; simp [builtin, h]
  unfold appendTo at hK
  obtain ⟨it, t1, hK⟩ := ob_elim hK
  split at hK
  · rename_i e hd
    obtain ⟨ie, t2, hK⟩ := ob_elim hK
    obtain ⟨⟨m, xs⟩, t3, hK⟩ := ob_elim hK
    have hu := slice_under (htt _ _ t1) hd
    obtain ⟨news, s1, s2⟩ := srcOf_sound htt hs.m t2 hy1 t3
    dsimp only at hK
    split at hK
    · -- a nil slice
      obtain ⟨⟨b1, b2⟩, b3, hK⟩ := hK
      unfold VX at hx1
      obtain ⟨ad, rfl⟩ := hx1
      obtain ⟨cx1, k1, k0, k2, k3⟩ := push_nil hs.m (htt _ _ t2) (htt _ _ t2).pos
      have hb : blkAt (σ.L ++ [some (nilRow e ie.flat)]) σ.L.length 0 = some (nilRow e ie.flat) := by simp [blkAt, nilRow]
      have hx' : VX cx1 w (.sl σ.L.length 0 0 0) (.slice ad 0 0) := by
        unfold VX at k3 ⊢
        obtain ⟨p, p1, p2⟩ := k3
        refine ⟨p, p1, ?_⟩
        rcases p2 with ⟨q1, _, q2⟩ | ⟨g', m', cap, ad', _, q2, _⟩
        · exact .inl ⟨q1, ⟨ad, rfl⟩, q2⟩
        · cases q2
      obtain ⟨y', w', cx2, r1, r2, r0, r3, r4, r5⟩ := append_row (ty := o.type) (σ := { σ with L := σ.L ++ [some (nilRow e ie.flat)] }) k2 hu (htt _ _ t2) (htt _ _ t2).pos hb rfl rfl rfl (Nat.zero_le _) hx' s1
        (by rw [k0]; exact s2) (fun hf => all_isV (b3 hf)) (by omega) (by simpa using b2)
      refine fin_sound hs.s (hexec r1) (Cx.le_trans k1 r2) ?_ (by rw [k0] at r4; exact r4) ?_ hK hn
      · simpa [nilRow] using r3
      · simpa using r5
    · rename_i k ver off n
      obtain ⟨b, hb, hK⟩ := ob_elim hK
      obtain ⟨⟨c1, c2, c3, rfl, c5⟩, ⟨d1, d2⟩, d3, hK⟩ := hK
      obtain ⟨y', w', cx2, r1, r2, r0, r3, r4, r5⟩ := append_row (ty := o.type) hs.m hu (htt _ _ t2) (htt _ _ t2).pos hb c1 c2 c3 c5 hx1 s1 s2 (fun hf => all_isV (d3 hf)) d1 d2
      exact fin_sound hs.s (hexec r1) r2 r3 r4 r5 hK hn
    · exact hK.elim
  · exact hK.elim

theorem len_str {t : TypeId} {i : TI} (htt : TTok P TT) (ht : TT t = some i) (hd : i.desc.isStr = true) {c : Call} (ho : o.op = .call c) (hb : c.callee = .builtin .len) (hts : c.argTypes[0]? = some t) (hs : Sim P fx cx σ a w) {s : ByteArray} (hx : evs σ c.args.toList = some [.v (.string s)])
    (hK : fin o σ (.v (.int .i64 s.size)) σ.L K) (hn : Nx P fx cx K next) : o.wp P a w next Q := by
  have hargs := evs_sound hs.s hx
  unfold VXl at hargs
  obtain ⟨yx, ys', e1, hx1, h2⟩ := hargs
  unfold VXl at h2; subst h2
  have e := VX.v_inv hx1
  have hmap : c.args.map a.eval = #[.string s] := by apply Array.ext'; rw [Array.toList_map, e1, e]
  have hu : P.underlying t = some .string := by
    cases h : i.desc <;> rw [h] at hd <;> simp [TD.isStr] at hd
    exact str_under (htt _ _ ht) h
  obtain ⟨cs, hex⟩ := exec_builtin (a := a) ho hb
  exact pure_sound hs (y := .int .i64 s.size) (by rw [hex, hmap]; simp [builtin, Builtin.len_, hts, run_underlying hu, goInt]) (by simp [VX]) hK hn
theorem len_slice {t : TypeId} {i : TI} (htt : TTok P TT) (ht : TT t = some i) (hd : i.desc.isSlice = true) {c : Call} (ho : o.op = .call c) (hb : c.callee = .builtin .len) (hts : c.argTypes[0]? = some t) (hs : Sim P fx cx σ a w) {x : IV} {n : Nat} (hx : evs σ c.args.toList = some [x])
    (hxn : ∀ y, VX cx w x y → ∃ ad c, y = .slice ad n c) (hK : fin o σ (.v (.int .i64 n)) σ.L K) (hn : Nx P fx cx K next) : o.wp P a w next Q := by
  have hargs := evs_sound hs.s hx
  unfold VXl at hargs
  obtain ⟨yx, ys', e1, hx1, h2⟩ := hargs
  unfold VXl at h2; subst h2
  obtain ⟨ad, cc, e⟩ := hxn _ hx1
  have hmap : c.args.map a.eval = #[.slice ad n cc] := by apply Array.ext'; rw [Array.toList_map, e1, e]
  obtain ⟨e', hu⟩ : ∃ e, P.underlying t = some (.slice e) := by
    cases h : i.desc <;> rw [h] at hd <;> simp [TD.isSlice] at hd
    exact ⟨_, slice_under (htt _ _ ht) h⟩
  obtain ⟨cs, hex⟩ := exec_builtin (a := a) ho hb
  exact pure_sound hs (y := .int .i64 n) (by rw [hex, hmap]; simp [builtin, Builtin.len_, hts, run_underlying hu, goInt]) (by simp [VX]) hK hn
theorem two_args {c : Call} (hs : Sim P fx cx σ a w) {p q : Value} (hx : evs σ c.args.toList = some [.v p, .v q]) : c.args.map a.eval = #[p, q] := by
  have hargs := evs_sound hs.s hx
  unfold VXl at hargs
  obtain ⟨yx, ys', e1, hx1, h2⟩ := hargs
  unfold VXl at h2
  obtain ⟨yy, ys'', rfl, hy1, h3⟩ := h2
  unfold VXl at h3
  subst h3
  have e := VX.v_inv hx1
  have e' := VX.v_inv hy1
  apply Array.ext'; rw [Array.toList_map, e1, e, e']

theorem one_arg {c : Call} (hs : Sim P fx cx σ a w) {p : Value} (hx : evs σ c.args.toList = some [.v p]) : c.args.map a.eval = #[p] := by
  have hargs := evs_sound hs.s hx
  unfold VXl at hargs
  obtain ⟨yx, ys', e1, hx1, h2⟩ := hargs
  unfold VXl at h2
  subst h2
  have e := VX.v_inv hx1
  apply Array.ext'; rw [Array.toList_map, e1, e]
theorem run_real (ts : Array TypeId) (t : TypeId) (k : FloatKind) (x y : Nat) : (Builtin.real_ ts t #[.complex k x y]).run P w = .ok (.float k x) w := rfl
theorem run_imag (ts : Array TypeId) (t : TypeId) (k : FloatKind) (x y : Nat) : (Builtin.imag_ ts t #[.complex k x y]).run P w = .ok (.float k y) w := rfl
theorem run_complex (ts : Array TypeId) (t : TypeId) (k : FloatKind) (x y : Nat) : (Builtin.complex_ ts t #[.float k x, .float k y]).run P w = .ok (.complex k x y) w := by
  have : Builtin.complex_ ts t #[.float k x, .float k y] = if k = k then (pure (.complex k x y) : Sem Value) else stuck "complex: parts of different kinds" := rfl
  rw [this, if_pos rfl]; rfl
theorem run_max_float {a b r : Nat} (h : fmax a b = some r) {ts : Array TypeId} {t : TypeId} : (Builtin.max_ ts t #[.float .f64 a, .float .f64 b]).run P w = .ok (.float .f64 r) w := by
  unfold fmax at h
  cases ho : FloatKind.f64.format.order a b with
  | none => rw [ho] at h; cases h
  | some c => rw [ho] at h; cases c <;> simp at h <;> subst h <;> simp [Builtin.max_, Builtin.max2, ho]
theorem run_min_float {a b r : Nat} (h : fmin a b = some r) {ts : Array TypeId} {t : TypeId} : (Builtin.min_ ts t #[.float .f64 a, .float .f64 b]).run P w = .ok (.float .f64 r) w := by
  unfold fmin at h
  cases ho : FloatKind.f64.format.order a b with
  | none => rw [ho] at h; cases h
  | some c => rw [ho] at h; cases c <;> simp at h <;> subst h <;> simp [Builtin.min_, Builtin.min2, ho]
theorem builtin_step {c : Call} {b : Builtin} (htt : TTok P TT) (ho : o.op = .call c) (hb : c.callee = .builtin b) (hs : Sim P fx cx σ a w) {xs : List IV} (hx : evs σ c.args.toList = some xs) (hK : stepBuiltin TT o b c.argTypes xs σ K) (hn : Nx P fx cx K next) : o.wp P a w next Q := by
  unfold stepBuiltin at hK
  split at hK
  · obtain ⟨t, t1, hK⟩ := ob_elim hK
    obtain ⟨i, t2, hd, hK⟩ := ob_elim hK
    exact len_str htt t2 hd ho hb t1 hs hx hK hn
  · obtain ⟨t, t1, hK⟩ := ob_elim hK
    obtain ⟨i, t2, hd, hK⟩ := ob_elim hK
    exact len_slice (n := 0) htt t2 hd ho hb t1 hs hx (fun y hy => by unfold VX at hy; obtain ⟨ad, rfl⟩ := hy; exact ⟨ad, 0, rfl⟩) hK hn
  · obtain ⟨t, t1, hK⟩ := ob_elim hK
    obtain ⟨i, t2, hd, hK⟩ := ob_elim hK
    exact len_slice htt t2 hd ho hb t1 hs hx (fun y hy => by unfold VX TR at hy; obtain ⟨ad, c, rfl, _⟩ := hy; exact ⟨ad, c, rfl⟩) hK hn
  · obtain ⟨t, t1, hK⟩ := ob_elim hK
    obtain ⟨i, t2, hd, hK⟩ := ob_elim hK
    refine len_slice htt t2 hd ho hb t1 hs hx (fun y hy => ?_) hK hn
    unfold VX at hy
    obtain ⟨p, _, hy⟩ := hy
    rcases hy with ⟨_, ⟨ad, rfl⟩, _, rfl⟩ | ⟨g, m, cap, ad, _, rfl, _⟩
    · exact ⟨ad, 0, rfl⟩
    · exact ⟨_, _, rfl⟩
  · split at hK
    · rename_i t u ht
      exact append_step htt ho hb hs hx ht hK hn
    · exact hK.elim
  · obtain ⟨cs, hex⟩ := exec_builtin (a := a) ho hb
    exact pure_sound hs (by rw [hex, one_arg hs hx]; simp only [builtin, Sem.run_bind, run_real, Result.andThen_ok, Sem.run_pure]; rfl) (by simp [VX]) hK hn
  · obtain ⟨cs, hex⟩ := exec_builtin (a := a) ho hb
    exact pure_sound hs (by rw [hex, one_arg hs hx]; simp only [builtin, Sem.run_bind, run_imag, Result.andThen_ok, Sem.run_pure]; rfl) (by simp [VX]) hK hn
  · obtain ⟨cs, hex⟩ := exec_builtin (a := a) ho hb
    exact pure_sound hs (by rw [hex, two_args hs hx]; simp only [builtin, Sem.run_bind, run_complex, Result.andThen_ok, Sem.run_pure]; rfl) (by simp [VX]) hK hn
  · obtain ⟨r, t1, hK⟩ := ob_elim hK
    obtain ⟨cs, hex⟩ := exec_builtin (a := a) ho hb
    exact pure_sound hs (by rw [hex, two_args hs hx]; simp only [builtin, Sem.run_bind, run_max_float t1, Result.andThen_ok, Sem.run_pure]; rfl) (by simp [VX]) hK hn
  · obtain ⟨r, t1, hK⟩ := ob_elim hK
    obtain ⟨cs, hex⟩ := exec_builtin (a := a) ho hb
    exact pure_sound hs (by rw [hex, two_args hs hx]; simp only [builtin, Sem.run_bind, run_min_float t1, Result.andThen_ok, Sem.run_pure]; rfl) (by simp [VX]) hK hn
  · rename_i k p k' q
    obtain ⟨cs, hex⟩ := exec_builtin (a := a) ho hb
    exact pure_sound hs (y := .int k (if q > p then q else p)) (by rw [hex, two_args hs hx]; simp [builtin, run_max_int2]) (by simp [VX]) hK hn
  · rename_i k p k' q
    obtain ⟨cs, hex⟩ := exec_builtin (a := a) ho hb
    exact pure_sound hs (y := .int k (if q < p then q else p)) (by rw [hex, two_args hs hx]; simp [builtin, run_min_int2]) (by simp [VX]) hK hn
  · exact hK.elim

/-! ### literals -/
theorem VXl.take {xs : List IV} {ys : List Value} (h : VXl cx w xs ys) (n : Nat) : VXl cx w (xs.take n) (ys.take n) := by
  refine VXl.of_get (by simp [h.length]) fun i x y hx hy => ?_
  rw [List.getElem?_take] at hx hy
  split at hx
  · rw [if_pos ‹_›] at hy
    obtain ⟨y', h1, h2⟩ := h.get i x hx
    rw [hy] at h1; cases h1; exact h2
  · cases hx

/-- cells written one behind the other -/
def setV (cells : List Value) (off : Nat) : List Value → List Value
  | [] => cells
  | u :: us => setV (cells.set off u) (off + 1) us
theorem setV_length (cells : List Value) (off : Nat) (us : List Value) : (setV cells off us).length = cells.length := by
  induction us generalizing cells off with
  | nil => rfl
  | cons u us ih => simp [setV, ih]
theorem fold_setV (us : List Value) (k off : Nat) (cells : Array Value) : ((us.zipIdx k).foldl (fun cs (c, j) => cs.setIfInBounds (off + j) c) cells).toList = setV cells.toList (off + k) us := by
  induction us generalizing k cells with
  | nil => rfl
  | cons u us ih =>
    rw [List.zipIdx_cons, List.foldl_cons]
    have := ih (k + 1) (cells.setIfInBounds (off + k) u)
    rw [this]
    simp [setV, Nat.add_assoc]
theorem fold_arr (u : Array Value) (off : Nat) (cells : Array Value) : (u.zipIdx.foldl (fun cs (c, j) => cs.setIfInBounds (off + j) c) cells).toList = setV cells.toList off u.toList := by
  rw [← Array.foldl_toList, Array.toList_zipIdx]
  have := fold_setV u.toList 0 off cells
  simpa using this
theorem VXl.set {xs : List IV} {ys : List Value} (h : VXl cx w xs ys) (n : Nat) {x : IV} {y : Value} (hx : VX cx w x y) : VXl cx w (xs.set n x) (ys.set n y) := by
  refine VXl.of_get (by simp [h.length]) fun i x' y' hx' hy' => ?_
  rw [List.getElem?_set] at hx' hy'
  rw [h.length] at hy'
  split at hx'
  · rw [if_pos ‹_›] at hy'
    split at hx'
    · rw [if_pos ‹_›] at hy'; cases hx'; cases hy'; exact hx
    · simp at hx'
  · rw [if_neg ‹_›] at hy'
    obtain ⟨y1, h1, h2⟩ := h.get i x' hx'
    rw [hy'] at h1; cases h1; exact h2
theorem VXl.putAt : ∀ {us : List Value} {ws : List IV} {xs : List IV} {ys : List Value} {off : Nat}, VXl cx w xs ys → VXl cx w ws us → VXl cx w (Lift.putAt xs off ws) (setV ys off us)
  | us, [], xs, ys, off, h, hw => by unfold VXl at hw; subst hw; exact h
  | us, z :: ws, xs, ys, off, h, hw => by
    unfold VXl at hw
    obtain ⟨u, us', rfl, h1, h2⟩ := hw
    unfold Lift.putAt setV
    exact VXl.putAt (h.set off h1) h2
theorem setV_one : ∀ {us : List Value} {ys : List Value} {off : Nat}, (∀ z ∈ ys, z.oneCell' = true) → (∀ z ∈ us, z.oneCell' = true) → ∀ z ∈ setV ys off us, z.oneCell' = true
  | [], ys, off, h, _ => h
  | u :: us, ys, off, h, hu => by
    unfold setV
    refine setV_one (fun z hz => ?_) (fun z hz => hu z (by simp [hz]))
    rcases List.mem_or_eq_of_mem_set hz with h' | rfl
    · exact h z h'
    · exact hu z (by simp)
theorem setV_eq (cells : List Value) (off : Nat) (us : List Value) (h : off + us.length ≤ cells.length) : setV cells off us = cells.take off ++ us ++ cells.drop (off + us.length) := by
  induction us generalizing cells off with
  | nil => simp [setV]
  | cons u us ih =>
    simp only [List.length_cons] at h
    unfold setV
    rw [ih _ _ (by simp; omega)]
    have h1 : (cells.set off u).take (off + 1) = cells.take off ++ [u] := by
      rw [List.take_add_one, List.take_set_of_le (Nat.le_refl _)]
      simp [List.getElem?_set]; omega
    have h2 : (cells.set off u).drop (off + 1 + us.length) = cells.drop (off + (us.length + 1)) := by
      rw [List.drop_set_of_lt (by omega)]; congr 1; omega
    rw [h1, h2]; simp

/-- a slice's literal -/
theorem fill_lit {size : Nat} : ∀ {ps : List (Nat × Operand)} {j : Nat} {cs : List IV} {cells : Array Value}, Tmps cx σ a w → litCells size j ps σ = some cs → (j + ps.length) * size ≤ cells.size →
    ∃ arr us, Instr.fill (fun i => some (i * size, size)) cells (ps.map fun p => (p.1, a.eval p.2)) = some arr ∧ arr.toList = cells.toList.take (j * size) ++ us ++ cells.toList.drop ((j + ps.length) * size) ∧ VXl cx w cs us ∧ (∀ z ∈ us, z.oneCell' = true) ∧ us.length = ps.length * size
  | [], j, cs, cells, hs, h, _ => by
    simp [litCells] at h; subst h
    exact ⟨cells, [], rfl, by simp, VXl.nil, by simp, by simp⟩
  | (i, x) :: ps, j, cs, cells, hs, h, hl => by
    unfold litCells at h
    split at h
    · rename_i v r h1 h2
      split at h
      · rename_i hc
        obtain ⟨rfl, hsz, hcell⟩ := hc
        cases h
        obtain ⟨e1, e2⟩ := VXl.one_of (ev_sound hs h1) hcell
        have hus : (a.eval x).cells.toList.length = size := by rw [e1.length, hsz]
        have husz : (a.eval x).cells.size = size := by simpa using hus
        simp only [List.length_cons] at hl
        have hl2 : (i + (ps.length + 1)) * size = i * size + (ps.length * size + size) := by rw [Nat.add_mul, Nat.add_mul, Nat.one_mul]
        have hfit : i * size + size ≤ cells.size := by omega
        let cells' := (a.eval x).cells.zipIdx.foldl (fun cs (c, j) => cs.setIfInBounds (i * size + j) c) cells
        have hc' : cells'.toList = cells.toList.take (i * size) ++ (a.eval x).cells.toList ++ cells.toList.drop (i * size + size) := by
          simp only [cells']
          rw [fold_arr, setV_eq _ _ _ (by rw [hus]; simpa using hfit), hus]
        have hs' : cells'.size = cells.size := by
          have := congrArg List.length hc'
          simp at this
          rw [husz] at this
          omega
        have hge : (i + 1 + ps.length) * size ≤ cells'.size := by rw [hs', show i + 1 + ps.length = i + (ps.length + 1) by omega]; exact hl
        obtain ⟨arr, us, u1, u2, u3, u4, u5⟩ := fill_lit (cells := cells') hs h2 hge
        refine ⟨arr, (a.eval x).cells.toList ++ us, ?_, ?_, e1.append u3, ?_, by simp [hus, u5, Nat.add_mul]; omega⟩
        · simp only [List.map_cons, Instr.fill]
          rw [if_neg (by simp [husz]; omega)]
          exact u1
        · rw [u2, hc']
          have t1 : ((cells.toList.take (i * size) ++ (a.eval x).cells.toList ++ cells.toList.drop (i * size + size))).take ((i + 1) * size) = cells.toList.take (i * size) ++ (a.eval x).cells.toList := by
            have : (i + 1) * size = (cells.toList.take (i * size) ++ (a.eval x).cells.toList).length := by simp [husz, Nat.add_mul]; omega
            rw [this]; exact List.take_left
          have t2 : ((cells.toList.take (i * size) ++ (a.eval x).cells.toList ++ cells.toList.drop (i * size + size))).drop ((i + 1 + ps.length) * size) = cells.toList.drop ((i + (ps.length + 1)) * size) := by
            have hlen : (cells.toList.take (i * size) ++ (a.eval x).cells.toList).length = i * size + size := by simp [husz]; omega
            have hbig : (i + 1 + ps.length) * size = i * size + size + ps.length * size := by rw [show i + 1 + ps.length = i + (ps.length + 1) by omega, hl2]; omega
            rw [List.drop_append, hlen, List.drop_eq_nil_of_le (by rw [hlen, hbig]; omega), List.nil_append, List.drop_drop]
            congr 1
            rw [hbig, hl2]; omega
          rw [t1, t2]; simp
        · intro z hz
          rw [List.mem_append] at hz
          exact hz.elim (e2 z) (u4 z)
      · cases h
    · cases h
end
end Go.Lift
