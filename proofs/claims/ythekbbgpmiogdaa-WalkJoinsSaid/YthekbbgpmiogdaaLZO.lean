/- One operation: the machine does what the evaluator says (part 5): literals, conversions; all operations. -/
import Derived.Test.YthekbbgpmiogdaaLZN
namespace Go.Lift
open Go Go.RowKit

section
variable {P : Program} {TT : TTab} {fx : Fx} {cx : Cx} {σ : St} {a : Act} {w : World} {o : Oper} {K : St → Prop} {next : Act → World → Prop} {Q : Exit → Act → World → Prop}

theorem step_buildSlice {t e : TypeId} {len : Nat} {ps : Array (Nat × Operand)} {i ie : TI} {cs : List IV} (htt : TTok P TT) (ho : o.op = .buildSlice t len ps) (hs : Sim P fx cx σ a w) (h1 : TT t = some i) (hd : i.desc = .slice e) (he : TT e = some ie)
    (hc : litCells ie.size 0 ps.toList σ = some cs) (hl1 : len ≤ 1000) (hl2 : ie.size ≤ 1000) (hps : ps.size = len) (htr : cs.all isTree = true) (hfl : ie.flat = true → cs.all isV = true)
    (h2 : fin o σ (.sl σ.L.length 0 0 len) (σ.L ++ [some ⟨true, e, len, ie.flat, cs, 0, false⟩]) K) (hn : Nx P fx cx K next) : o.wp P a w next Q := by
  have hu := slice_under (htt _ _ h1) hd
  have hie := htt _ _ he
  obtain ⟨j, hj, hj2, hj3, z, hz1, hz2⟩ := hie.info
  have hzl : z.cells.size = ie.size := by have := hz2.length; rw [hie.zlen] at this; simpa using this
  have hpos := hie.pos
  let init : Array Value := (Array.range (len * ie.size)).map (z.cells[· % z.cells.size]!)
  obtain ⟨arr, us, u1, u2, u3, u4, u5⟩ := fill_lit (a := a) (cells := init) hs.s hc (by simp [init, hps])
  have hus : us.length = len * ie.size := by rw [u5]; simp [hps]
  have harr : arr.toList = us := by
    rw [u2]
    have e1 : (0 + ps.toList.length) * ie.size = init.toList.length := by simp [init, hps]
    rw [e1]; simp
  have hrun : (Instr.buildSlice t len (ps.map fun (i, x) => (i, a.eval x))).run P w = .ok (.slice (some ⟨w.heap.size, 0, none⟩) len len) (w.alloc (.cells arr e)) := by
    have hlim : len * ie.size ≤ 16777216 := by
      have := Nat.mul_le_mul hl1 hl2
      omega
    have hmap : (ps.map fun (i, x) => (i, a.eval x)).toList = ps.toList.map fun p => (p.1, a.eval p.2) := by
      rw [Array.toList_map]
    unfold Instr.buildSlice
    simp only [Sem.run_bind, run_underlying hu, Result.andThen_ok, sizeOf_run hie]
    rw [if_neg (by simp; omega)]
    by_cases hz : len * ie.size = 0
    · simp only [hz, if_true, Sem.run_pure, Result.andThen_ok, Sem.run_bind]
      have : init = (Array.range 0).map ((#[] : Array Value)[· % (#[] : Array Value).size]!) := by simp [init, hz]
      rw [hmap, ← this, u1]
      simp [newRow]
    · simp only [hz, if_false, Sem.run_bind, run_zeroValue hj hz1, Result.andThen_ok, Sem.run_pure]
      rw [hmap]
      show ((match Instr.fill (fun i => some (i * ie.size, ie.size)) init (ps.toList.map fun p => (p.1, a.eval p.2)) with | some cells => _ | _ => _) : Sem Value).run P w = _
      rw [u1]
      simp [newRow]
  have hx : TRl cx.R w cs (arr.toList.take (len * ie.size)) := by
    rw [harr, List.take_of_length_le (by omega)]
    exact TRl_of_tree u3 htr
  obtain ⟨cx', k1, k0, k2, k3, k4⟩ := push_row (n := len) (cap := len) hs.m (Fr.alloc_nil w (.cells arr e)) hie hpos (heap_alloc_at w _) (Nat.le_refl _) (by simp only [maxLen]; omega)
    (by have := congrArg List.length harr; simp at this; omega) hx (fun hf => all_isV (hfl hf))
  exact fin_sound hs.s (by simp [execOp, ho, hrun]) k1 k2 k3 k4 h2 hn

theorem ofZero_sound : ∀ {zs : List ZC} {ys : List Value}, zOk zs ys → VXl cx w (zs.map ZC.iv) ys ∧ ∀ z ∈ ys, z.oneCell' = true
  | [], ys, h => by simp [zOk] at h; subst h; exact ⟨VXl.nil, by simp⟩
  | z :: zs, ys, h => by
    unfold zOk at h
    obtain ⟨y, ys', rfl, h1, h2⟩ := h
    obtain ⟨g1, g2⟩ := ofZero_sound h2
    cases z with
    | v x => obtain ⟨rfl, h1⟩ := h1; exact ⟨VXl.cons (by simp [VX, ZC.iv]) g1, by simp; exact ⟨h1, g2⟩⟩
    | row e => subst h1; exact ⟨VXl.cons (by simp [VX, ZC.iv]) g1, by simp; exact ⟨rfl, g2⟩⟩
theorem fill_struct {gs : Array Field} {places : Array (Nat × Nat)} {fs : List (Nat × TypeId)} (hfs : gs.toList.map (fun f => (f.offset, f.type)) = fs) (htt : TTok P TT)
    (hp : ∀ (i : Nat) (g : Field) (it : TI), gs[i]? = some g → TT g.type = some it → places[i]? = some (g.offset, it.size)) :
    ∀ {ps : List (Nat × Operand)} {vs cs0 cs : List IV} {cells : Array Value}, Tmps cx σ a w → evs σ (ps.map (·.2)) = some vs → fillIV TT fs cs0 ((ps.map (·.1)).zip vs) = some cs → VXl cx w cs0 cells.toList → (∀ z ∈ cells.toList, z.oneCell' = true) →
    ∃ arr, Instr.fill (places[·]?) cells (ps.map fun p => (p.1, a.eval p.2)) = some arr ∧ VXl cx w cs arr.toList ∧ ∀ z ∈ arr.toList, z.oneCell' = true
  | [], vs, cs0, cs, cells, hs, he, h, hc, h1 => by
    simp [evs] at he; subst he
    simp [fillIV] at h; subst h
    exact ⟨cells, rfl, hc, h1⟩
  | (i, x) :: ps, vs, cs0, cs, cells, hs, he, h, hc, h1 => by
    simp only [List.map_cons, evs] at he
    split at he
    · rename_i v vs' e1 e2
      cases he
      simp only [List.map_cons, List.zip_cons_cons, fillIV] at h
      split at h
      · rename_i off t hf
        split at h
        · rename_i it ht
          split at h
          · rename_i hcond
            obtain ⟨c1, c2, c3⟩ := hcond
            rw [← hfs, List.getElem?_map, Option.map_eq_some_iff] at hf
            obtain ⟨g, g1, g2⟩ := hf
            cases g2
            have hpl := hp i g it (by simpa using g1) ht
            obtain ⟨v1, v2⟩ := VXl.one_of (ev_sound hs e1) c3
            have hus : (a.eval x).cells.toList.length = it.size := by rw [v1.length, c1]
            have husz : (a.eval x).cells.size = it.size := by simpa using hus
            have hcl : cells.size = cs0.length := by have := hc.length; simpa using this
            let cells' := (a.eval x).cells.zipIdx.foldl (fun cs (c, j) => cs.setIfInBounds (g.offset + j) c) cells
            have hc' : cells'.toList = setV cells.toList g.offset (a.eval x).cells.toList := fold_arr _ _ _
            obtain ⟨arr, r1, r2⟩ := fill_struct hfs htt hp (cells := cells') hs e2 h (by rw [hc']; exact hc.putAt v1) (by rw [hc']; exact setV_one h1 v2)
            refine ⟨arr, ?_, r2⟩
            simp only [List.map_cons, Instr.fill, hpl]
            rw [if_neg (by simp [husz]; omega)]
            exact r1
          · cases h
        · cases h
      · cases h
    · cases he
theorem mapM_places {gs : List Field} (htt : TTok P TT) (hall : ∀ g ∈ gs, ∃ it, TT g.type = some it) : ∃ ps : List (Nat × Nat), (gs.mapM (fun f => do pure (f.offset, ← sizeOf f.type) : Field → Sem (Nat × Nat))).run P w = .ok ps w ∧ ∀ (i : Nat) (g : Field) (it : TI), gs[i]? = some g → TT g.type = some it → ps[i]? = some (g.offset, it.size) := by
  induction gs with
  | nil => exact ⟨[], by simp, by simp⟩
  | cons g gs ih =>
    obtain ⟨it, hit⟩ := hall g (by simp)
    obtain ⟨ps, h1, h2⟩ := ih fun g hg => hall g (by simp [hg])
    refine ⟨(g.offset, it.size) :: ps, by simp only [List.mapM_cons, Sem.run_bind, sizeOf_run (htt _ _ hit), Result.andThen_ok, Sem.run_pure, h1], fun i g' it' hg ht => ?_⟩
    cases i with
    | zero => simp at hg; subst hg; rw [hit] at ht; cases ht; rfl
    | succ i => simp at hg; simpa using h2 i g' it' hg ht
theorem step_build {t : TypeId} {ps : Array (Nat × Operand)} {i : TI} {fs : List (Nat × TypeId)} {vs cs : List IV} (htt : TTok P TT) (ho : o.op = .build t ps) (hs : Sim P fx cx σ a w) (h1 : TT t = some i) (hd : i.desc = .struct fs) (hall : ∀ f ∈ fs, ∃ it, TT f.2 = some it)
    (hv : evs σ (ps.toList.map (·.2)) = some vs) (hc : fillIV TT fs (i.zero.map ZC.iv) ((ps.toList.map (·.1)).zip vs) = some cs) (h2 : fin o σ (.agg cs) σ.L K) (hn : Nx P fx cx K next) : o.wp P a w next Q := by
  have hi := htt _ _ h1
  obtain ⟨d, d1, d2, _⟩ := hi.desc
  rw [hd] at d2
  obtain ⟨gs, rfl, hg⟩ := d2
  obtain ⟨j, hj, hj2, hj3, z, hz1, hz2⟩ := hi.info
  obtain ⟨z1, z2⟩ := ofZero_sound (cx := cx) (w := w) hz2
  obtain ⟨pl, p1, p2⟩ := mapM_places (P := P) (w := w) (gs := gs.toList) htt fun g hgm => hall (g.offset, g.type) (by rw [← hg]; exact List.mem_map_of_mem hgm)
  obtain ⟨arr, r1, r2, r3⟩ := fill_struct (a := a) (places := pl.toArray) hg htt (fun i g it hgi ht => by simpa using p2 i g it (by simpa using hgi) ht) hs.s hv hc z1 z2
  refine pure_sound hs (y := .agg arr) ?_ (by unfold VX; exact ⟨arr, rfl, r2, r3⟩) h2 hn
  have hmap : (ps.map fun (i, x) => (i, a.eval x)).toList = ps.toList.map fun p => (p.1, a.eval p.2) := by rw [Array.toList_map]
  have hm : (gs.mapM (fun f => do pure (f.offset, ← sizeOf f.type) : Field → Sem (Nat × Nat))).run P w = .ok pl.toArray w := by
    rw [Array.mapM_eq_mapM_toList, Sem.run_map, p1]; rfl
  simp only [execOp, ho, Instr.build, Sem.run_bind, run_zeroValue hj hz1, Result.andThen_ok, run_underlying d1]
  rw [hm]
  simp only [Result.andThen_ok]
  rw [hmap, r1]
  simp
theorem step_convert_int {s d : TypeId} {x : Operand} {is id : TI} {k k' : IntKind} {n : Int} (htt : TTok P TT) (ho : o.op = .convert s d x) (hs : Sim P fx cx σ a w) (h1 : TT s = some is) (h3 : TT d = some id) (hk : id.num = some k) (hx : ev σ x = some (.v (.int k' n)))
    (h2 : fin o σ (.v (.int k (k.wrap n))) σ.L K) (hn : Nx P fx cx K next) : o.wp P a w next Q := by
  have e := VX.v_inv (ev_sound hs.s hx)
  have hd := (htt _ _ h3).num k hk
  obtain ⟨ds, hds, _⟩ := (htt _ _ h1).desc
  exact pure_sound hs (y := .int k (k.wrap n)) (by simp [execOp, ho, e, convert, run_underlying hds, run_underlying hd, Conv.intToInt]) (by simp [VX]) h2 hn
theorem step_convert_fi {s d : TypeId} {x : Operand} {is id : TI} {k : IntKind} {b : Nat} {n : Int} (htt : TTok P TT) (ho : o.op = .convert s d x) (hs : Sim P fx cx σ a w) (h1 : TT s = some is) (h3 : TT d = some id) (hk : id.num = some k) (hx : ev σ x = some (.v (.float .f64 b)))
    (hv : floatToIntVal .f64 b k = some n) (h2 : fin o σ (.v (.int k n)) σ.L K) (hn : Nx P fx cx K next) : o.wp P a w next Q := by
  have e := VX.v_inv (ev_sound hs.s hx)
  have hd := (htt _ _ h3).num k hk
  obtain ⟨ds, hds, _⟩ := (htt _ _ h1).desc
  have hr := run_convert_float_int w s d .f64 k b n (by rw [hds]; rfl) hd hv
  exact pure_sound hs (y := .int k n) (by simp [execOp, ho, e, hr]) (by simp [VX]) h2 hn
theorem step_convert_if {s d : TypeId} {x : Operand} {is id : TI} {k : IntKind} {n : Int} (htt : TTok P TT) (ho : o.op = .convert s d x) (hs : Sim P fx cx σ a w) (h1 : TT s = some is) (h3 : TT d = some id) (hk : id.desc = .float) (hx : ev σ x = some (.v (.int k n)))
    (h2 : fin o σ (.v (.float .f64 (FloatKind.f64.nearest n))) σ.L K) (hn : Nx P fx cx K next) : o.wp P a w next Q := by
  have e := VX.v_inv (ev_sound hs.s hx)
  obtain ⟨dd, hd, hd2, _⟩ := (htt _ _ h3).desc
  rw [hk] at hd2
  obtain rfl : dd = .float .f64 := hd2
  obtain ⟨ds, hds, _⟩ := (htt _ _ h1).desc
  exact pure_sound hs (y := .float .f64 (FloatKind.f64.nearest n)) (by simp [execOp, ho, e, convert, run_underlying hds, run_underlying hd, Conv.intToFloat]) (by simp [VX]) h2 hn
theorem bytesOfCells_get : ∀ {cs : List IV} {bs : List UInt8}, bytesOfCells cs = some bs → ∃ ns : List Int, cs = ns.map (fun n => .v (.int .u8 n)) ∧ bs = ns.map fun n => UInt8.ofNat n.toNat
  | [], bs, h => by simp [bytesOfCells] at h; subst h; exact ⟨[], rfl, rfl⟩
  | x :: xs, bs, h => by
    unfold bytesOfCells at h
    split at h
    · rename_i e; cases e
    · rename_i n xs' e
      cases e
      rw [Option.map_eq_some_iff] at h
      obtain ⟨bs', h1, rfl⟩ := h
      obtain ⟨ns, rfl, rfl⟩ := bytesOfCells_get h1
      exact ⟨n :: ns, rfl, rfl⟩
    · cases h
theorem foldl_push_ns (ns : List Int) (s : ByteArray) : ns.foldl (fun r n => r.push (UInt8.ofNat n.toNat)) s = ⟨s.data ++ (ns.map fun n => UInt8.ofNat n.toNat).toArray⟩ := by
  induction ns generalizing s with
  | nil => simp
  | cons n ns ih => rw [List.foldl_cons, ih]; congr 1; apply Array.ext'; simp [ByteArray.push]
theorem TRl_v : ∀ {ns : List Int} {us : List Value} {R : Nat → Prop}, TRl R w (ns.map fun n => .v (.int .u8 n)) us → us = ns.map (Value.int .u8)
  | [], us, R, h => by simp [TRl] at h; exact h
  | n :: ns, us, R, h => by
    simp only [List.map_cons] at h
    unfold TRl at h
    obtain ⟨y, ys', rfl, ⟨h1, _⟩, h2⟩ := h
    simp only [TR] at h1
    rw [h1, TRl_v h2]; rfl
theorem srcOf_slice {u e e' : TypeId} {iu : TI} {size : Nat} (hu : TT u = some iu) (hd : iu.desc = .slice e') {x : IV} {y : Value} (hx : VX cx w x y) {m : Nat} {cs : List IV} (h : srcOf σ.L TT u e size x = some (m, cs)) : ∃ ad c, y = .slice ad m c := by
  unfold srcOf at h
  rw [hu] at h
  dsimp only at h
  rw [hd] at h
  cases x <;> dsimp only at h <;> try (cases h; done)
  · split at h
    · cases h; unfold VX at hx; obtain ⟨ad, rfl⟩ := hx; exact ⟨ad, 0, rfl⟩
    · cases h
  · split at h
    · cases h; unfold VX TR at hx; obtain ⟨ad, c, rfl, _⟩ := hx; exact ⟨ad, c, rfl⟩
    · cases h
  · split at h
    · split at h
      · split at h
        · cases h
          unfold VX at hx
          obtain ⟨p, _, hx⟩ := hx
          rcases hx with ⟨_, ⟨ad, rfl⟩, _, rfl⟩ | ⟨g, m, cap, ad, _, rfl, _⟩
          · exact ⟨ad, 0, rfl⟩
          · exact ⟨_, _, rfl⟩
        · cases h
      · cases h
    · cases h
theorem step_convert_bytes {s d e : TypeId} {x : Operand} {is id ie : TI} {v : IV} {m : Nat} {cs : List IV} {bs : List UInt8} (htt : TTok P TT) (ho : o.op = .convert s d x) (hs : Sim P fx cx σ a w) (h1 : TT s = some is) (h3 : TT d = some id)
    (hds : is.desc = .slice e) (hdd : id.desc = .str) (he : TT e = some ie) (hnum : ie.num = some .u8) (hsz1 : ie.size = 1) (hx : ev σ x = some v) (hsrc : srcOf σ.L TT s e 1 v = some (m, cs)) (hbs : bytesOfCells cs = some bs)
    (h2 : fin o σ (.v (.string ⟨bs.toArray⟩)) σ.L K) (hn : Nx P fx cx K next) : o.wp P a w next Q := by
  have hv := ev_sound hs.s hx
  obtain ⟨ad, c, ey⟩ := srcOf_slice h1 hds hv hsrc
  rw [← hsz1] at hsrc
  obtain ⟨news, s1, s2⟩ := srcOf_sound htt hs.m he hv hsrc
  obtain ⟨ns, rfl, rfl⟩ := bytesOfCells_get hbs
  have hnews := TRl_v s2
  subst hnews
  have hus := slice_under (htt _ _ h1) hds
  have hud := str_under (htt _ _ h3) hdd
  have hue := (htt _ _ he).num _ hnum
  refine pure_sound hs (y := .string ⟨(ns.map fun n => UInt8.ofNat n.toNat).toArray⟩) ?_ (by simp [VX]) h2 hn
  have hc := s1.cells w rfl
  have hlen := s1.num
  rw [hsz1, ey] at hc
  rw [hsz1] at hlen
  have hconv : (Conv.bytesToString (.slice ad m c)).run P w = .ok (.string ⟨(ns.map fun n => UInt8.ofNat n.toNat).toArray⟩) w := by
    cases ad with
    | none =>
      simp [Builtin.firstCells] at hc
      rw [hc]; rfl
    | some ad =>
      simp only [Builtin.firstCells, Nat.mul_one] at hc
      rw [run_bytesToString w ad m c ns hc, foldl_push_ns]
      congr 3
      simp
  simp only [execOp, ho, ey, Sem.run_bind, run_convert_bytes_string w s d e ad m c hus hue hud, hconv, Result.andThen_ok, Sem.run_pure]
theorem step_convert_str {s d e : TypeId} {x : Operand} {is id ie : TI} {b : ByteArray} (htt : TTok P TT) (ho : o.op = .convert s d x) (hs : Sim P fx cx σ a w) (h1 : TT s = some is) (h3 : TT d = some id)
    (hds : is.desc = .str) (hdd : id.desc = .slice e) (he : TT e = some ie) (hnum : ie.num = some .u8) (hx : ev σ x = some (.v (.string b))) (h2 : fin o σ (.tr b.size (strCells b)) σ.L K) (hn : Nx P fx cx K next) : o.wp P a w next Q := by
  have ex := VX.v_inv (ev_sound hs.s hx)
  have hus := str_under (htt _ _ h1) hds
  have hud := slice_under (htt _ _ h3) hdd
  have hue := (htt _ _ he).num _ hnum
  have hrun := run_bytes_of_string w s d e b hus hud hue
  let w' := w.drew.alloc (.cells (bytesRow b (grownCap w b.size 0 e)) e ((bytesRow b (grownCap w b.size 0 e)).size, (bytesRow b (grownCap w b.size 0 e)).size + 1))
  have hf : Fr w w' [] := (Fr.drew w []).trans (Fr.alloc_nil w.drew _) (fun _ _ h => .inl h)
  have hm := hs.m.grow hf (fun bb => cx.R bb ∨ bb = w.heap.size) (fun _ h => .inl h) (fun bb h => h.imp (fun h => h) (fun h => ⟨by omega, by subst h; show w.heap.size < (w.drew.heap.push _).size; simp⟩))
  refine fin_sound (w' := w') hs.s (by simp only [execOp, ho, ex, Sem.run_bind, hrun, Result.andThen_ok, Sem.run_pure]; rfl) (cx' := { cx with R := fun bb => cx.R bb ∨ bb = w.heap.size }) ⟨fun _ _ _ h => h, fun _ h => .inl h⟩ hm (hs.m.heapEq hf) ?_ h2 hn
  unfold VX TR
  refine ⟨_, _, rfl, by have := grownCap_ge w b.size 0 e; exact this, .inr ⟨w.heap.size, 0, rfl, .inr rfl, TRm.of_get fun i x hx => ?_⟩⟩
  simp only [strCells, List.getElem?_map, Option.map_eq_some_iff] at hx
  obtain ⟨c, h1, rfl⟩ := hx
  refine ⟨.int .u8 c.toNat, ?_, by simp [TR], rfl⟩
  have hh : w'.heap[w.heap.size]? = some (.cells (bytesRow b (grownCap w b.size 0 e)) e ((bytesRow b (grownCap w b.size 0 e)).size, (bytesRow b (grownCap w b.size 0 e)).size + 1)) := heap_alloc_at w.drew _
  rw [Nat.zero_add, cell_of_row w' w.heap.size i _ e _ hh]
  have hi : i < b.data.size := by have := (List.getElem?_eq_some_iff.1 h1).1; simpa using this
  simp only [bytesRow]
  rw [Array.getElem?_append, if_pos (by simpa using hi)]
  simp at h1
  simp [h1]
end
end Go.Lift
