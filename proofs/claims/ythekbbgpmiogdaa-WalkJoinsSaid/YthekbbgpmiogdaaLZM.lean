/- One operation: the machine does what the evaluator says (part 3). -/
import Derived.Test.YthekbbgpmiogdaaLZL
namespace Go.Lift
open Go Go.RowKit

section
variable {P : Program} {TT : TTab} {fx : Fx} {cx : Cx} {σ : St} {a : Act} {w : World} {o : Oper} {K : St → Prop} {next : Act → World → Prop} {Q : Exit → Act → World → Prop}

theorem bnd_run {x : Option Operand} {dflt l : Nat} (hs : Tmps cx σ a w) (h : bnd σ x dflt = some l) (y : Nat) (code : BoundsCode) (hl : l ≤ y) :
    (match x.map a.eval with | some v => Instr.sliceBound v y code | none => (pure dflt : Sem Nat)).run P w = .ok l w := by
  cases x with
  | none => simp [bnd] at h; subst h; rfl
  | some x =>
    unfold bnd at h
    simp only at h
    split at h
    · rename_i k n hx
      split at h
      · rename_i hn
        cases h
        have e := VX.v_inv (ev_sound hs hx)
        simp only [Option.map_some, e, Instr.sliceBound, asIntOf, Sem.run_bind, Sem.run_pure, Result.andThen_ok]
        rw [if_pos ⟨hn, by omega⟩]
        rfl
      · cases h
    · cases h
theorem bounds_run {lo hi : Option Operand} {l h len cap : Nat} (hs : Tmps cx σ a w) (h1 : bnd σ lo 0 = some l) (h2 : bnd σ hi len = some h) (hl : l ≤ h) (hh : h ≤ cap) (isS : Bool) :
    (Instr.sliceBounds isS len cap (lo.map a.eval) (hi.map a.eval) none).run P w = .ok (l, h, cap) w := by
  have r2 := bnd_run (P := P) hs h2 cap (if isS then .sliceAcap else .sliceAlen) hh
  have r1 := bnd_run (P := P) hs h1 h .sliceB hl
  unfold Instr.sliceBounds
  cases hi <;> cases lo <;> simp_all

theorem step_slice_str {t : TypeId} {x : Operand} {lo hi : Option Operand} {i : TI} {s : ByteArray} {l h : Nat} (htt : TTok P TT) (ho : o.op = .slice t x lo hi none) (hs : Sim P fx cx σ a w) (h1 : TT t = some i) (hd : i.desc = .str)
    (hx : ev σ x = some (.v (.string s))) (b1 : bnd σ lo 0 = some l) (b2 : bnd σ hi s.size = some h) (hl : l ≤ h) (hh : h ≤ s.size) (h2 : fin o σ (.v (.string (s.extract l h))) σ.L K) (hn : Nx P fx cx K next) : o.wp P a w next Q := by
  have ex := VX.v_inv (ev_sound hs.s hx)
  have hu := str_under (htt _ _ h1) hd
  refine pure_sound hs (y := .string (s.extract l h)) ?_ (by simp [VX]) h2 hn
  have := bounds_run (P := P) hs.s b1 b2 hl hh false
  simp [execOp, ho, ex, Instr.sliceAt, Instr.slice, run_underlying hu, this]
theorem TRm.cut {R : Nat → Prop} {cs : List IV} {g d : Nat} (h : TRm R w cs g d) (o m : Nat) : TRm R w ((cs.drop o).take m) g (d + o) :=
  TRm.of_get fun i x hx => by
    rw [List.getElem?_take] at hx
    split at hx
    · rw [List.getElem?_drop] at hx
      obtain ⟨y, q⟩ := h.get _ _ hx
      exact ⟨y, by rw [Nat.add_assoc]; exact q⟩
    · cases hx
theorem step_slice_ro {t e : TypeId} {x : Operand} {lo hi : Option Operand} {i ie : TI} {n : Nat} {cs : List IV} {l h : Nat} (htt : TTok P TT) (ho : o.op = .slice t x lo hi none) (hs : Sim P fx cx σ a w) (h1 : TT t = some i) (hd : i.desc = .slice e) (he : TT e = some ie)
    (hx : ev σ x = some (.tr n cs)) (b1 : bnd σ lo 0 = some l) (b2 : bnd σ hi n = some h) (hl : l ≤ h) (hh : h ≤ n) (h2 : fin o σ (.tr (h - l) (cut cs l (h - l) ie.size)) σ.L K) (hn : Nx P fx cx K next) : o.wp P a w next Q := by
  have hv := ev_sound hs.s hx
  have hu := slice_under (htt _ _ h1) hd
  unfold VX TR at hv
  obtain ⟨b, c, ex, hnc, h3⟩ := hv
  have hb := bounds_run (P := P) hs.s b1 b2 hl (Nat.le_trans hh hnc) true
  refine pure_sound hs (y := .slice (if c = l then b else b.map (·.add (l * ie.size))) (h - l) (c - l)) ?_ ?_ h2 hn
  · simp [execOp, ho, ex, Instr.sliceAt, Instr.slice, run_underlying hu, hb, sizeOf_run (htt _ _ he)]
  · unfold VX TR
    refine ⟨_, _, rfl, by omega, ?_⟩
    by_cases hz : h - l = 0
    · left; simp [cut, hz]
    · rcases h3 with rfl | ⟨g, d, rfl, hR, hm⟩
      · left; simp [cut]
      · right
        rw [if_neg (by omega)]
        refine ⟨g, d + l * ie.size, by simp [Addr.add_lit], hR, ?_⟩
        unfold cut
        exact hm.cut _ _
theorem step_slice_row {t e : TypeId} {x : Operand} {lo hi : Option Operand} {i ie : TI} {k ver off n : Nat} {b : Blk} {l h : Nat} (htt : TTok P TT) (ho : o.op = .slice t x lo hi none) (hs : Sim P fx cx σ a w) (h1 : TT t = some i) (hd : i.desc = .slice e) (he : TT e = some ie)
    (hx : ev σ x = some (.sl k ver off n)) (hb : blkAt σ.L k ver = some b) (b1 : bnd σ lo 0 = some l) (b2 : bnd σ hi n = some h) (hl : l ≤ h) (hh : h ≤ n) (hbt : b.t = e) (hr : b.row = true) (h2 : fin o σ (.sl k ver (off + l) (h - l)) σ.L K) (hn : Nx P fx cx K next) : o.wp P a w next Q := by
  have hv := ev_sound hs.s hx
  have hu := slice_under (htt _ _ h1) hd
  unfold VX at hv
  obtain ⟨p, p1, p2⟩ := hv
  subst hbt
  obtain ⟨hsz, _⟩ := row_info hs.m hb hr (htt _ _ he) p1
  rcases p2 with ⟨v1, ⟨ad, ex⟩, rfl, rfl⟩ | ⟨g, m, cap, ad, v1, ex, v3, v4⟩
  · have hb := bounds_run (P := P) (cap := 0) hs.s b1 b2 hl hh true
    have : h = 0 := by omega
    subst this
    have : l = 0 := by omega
    subst this
    refine pure_sound hs (y := .slice ad 0 0) ?_ ?_ h2 hn
    · simp [execOp, ho, ex, Instr.sliceAt, Instr.slice, run_underlying hu, hb, sizeOf_run (htt _ _ he)]
    · unfold VX
      exact ⟨p, p1, .inl ⟨v1, ⟨ad, rfl⟩, rfl, rfl⟩⟩
  · have hb := bounds_run (P := P) (cap := cap - off) hs.s b1 b2 hl (by omega) true
    refine pure_sound hs (y := .slice (some (if cap - off = l then ad else ad.add (l * ie.size))) (h - l) (cap - off - l)) ?_ ?_ h2 hn
    · simp [execOp, ho, ex, Instr.sliceAt, Instr.slice, run_underlying hu, hb, sizeOf_run (htt _ _ he)]
      split <;> rfl
    · unfold VX
      refine ⟨p, p1, .inr ⟨g, m, cap, _, v1, by rw [Nat.sub_sub], by omega, fun hc => ?_⟩⟩
      by_cases hz : 0 < h - l
      · have had := v4 (.inl (by omega))
        subst had
        rw [if_neg (by omega), Addr.add_lit, hsz, ← Nat.add_mul]
      · have h0 : off + l = 0 := by omega
        have had := v4 (.inr (by omega))
        subst had
        have hl0 : l = 0 := by omega
        have ho0 : off = 0 := by omega
        subst hl0 ho0
        simp [Addr.add_lit]
theorem step_slice_emp {t e : TypeId} {x : Operand} {lo hi : Option Operand} {i : TI} {l h : Nat} (htt : TTok P TT) (ho : o.op = .slice t x lo hi none) (hs : Sim P fx cx σ a w) (h1 : TT t = some i) (hd : i.desc = .slice e) (hse : ∃ ie, TT e = some ie)
    (hx : ev σ x = some .emp) (b1 : bnd σ lo 0 = some l) (b2 : bnd σ hi 0 = some h) (hl : l = 0) (hh : h = 0) (h2 : fin o σ .emp σ.L K) (hn : Nx P fx cx K next) : o.wp P a w next Q := by
  have hv := ev_sound hs.s hx
  have hu := slice_under (htt _ _ h1) hd
  obtain ⟨ie, he⟩ := hse
  unfold VX at hv
  obtain ⟨b, ex⟩ := hv
  subst hl hh
  have hb := bounds_run (P := P) (cap := 0) hs.s b1 b2 (Nat.le_refl _) (Nat.le_refl _) true
  refine pure_sound hs (y := .slice b 0 0) ?_ (by unfold VX; exact ⟨b, rfl⟩) h2 hn
  simp [execOp, ho, ex, Instr.sliceAt, Instr.slice, run_underlying hu, hb, sizeOf_run (htt _ _ he)]

theorem evs_sound : ∀ {xs : List Operand} {vs : List IV}, Tmps cx σ a w → evs σ xs = some vs → VXl cx w vs (xs.map a.eval)
  | [], vs, hs, h => by simp [evs] at h; subst h; exact VXl.nil
  | x :: xs, vs, hs, h => by
    unfold evs at h
    split at h
    · rename_i y ys h1 h2
      cases h
      exact VXl.cons (ev_sound hs h1) (evs_sound hs h2)
    · cases h

/-- what is appended -/
theorem srcOf_sound (htt : TTok P TT) (hm : Mem P fx cx σ w) {u e : TypeId} {ie : TI} (he : TT e = some ie) {x : IV} {y : Value} (hx : VX cx w x y) {m : Nat} {cs : List IV} (h : srcOf σ.L TT u e ie.size x = some (m, cs)) :
    ∃ news, Src P w u y m ie.size news ∧ TRl cx.R w cs news := by
  unfold srcOf at h
  split at h
  · cases h
  · rename_i iu hu
    split at h
    · rename_i e' hd
      split at h
      · rename_i ee
        subst ee
        cases h
        unfold VX at hx
        obtain ⟨ad, rfl⟩ := hx
        exact ⟨[], src_slice (slice_under (htt _ _ hu) hd) (by simp) (by simp) (.inl rfl), by simp [TRl]⟩
      · cases h
    · rename_i e' n cs' hd
      split at h
      · rename_i ee
        obtain ⟨rfl, hl⟩ := ee
        cases h
        unfold VX TR at hx
        obtain ⟨ad, c, rfl, hc, h3⟩ := hx
        rcases h3 with rfl | ⟨g, d, rfl, hR, hmm⟩
        · exact ⟨[], src_slice (slice_under (htt _ _ hu) hd) (by simpa using hl) (by simp) (.inl rfl), by simp [TRl]⟩
        · -- the cells' values
          have : ∃ news : List Value, news.length = cs.length ∧ ∀ (i : Nat) (x : IV), cs[i]? = some x → ∃ y, news[i]? = some y ∧ w.cell? ⟨g, d + i, none⟩ = some y ∧ TR cx.R w x y ∧ y.oneCell' = true := by
            refine ⟨(List.range cs.length).map fun i => (w.cell? ⟨g, d + i, none⟩).getD undef, by simp, fun i x hi => ?_⟩
            obtain ⟨y, q1, q2, q3⟩ := hmm.get i x hi
            have hlt : i < cs.length := (List.getElem?_eq_some_iff.1 hi).1
            exact ⟨y, by simp [hlt, q1], q1, q2, q3⟩
          obtain ⟨news, n1, n2⟩ := this
          have n3 : ∀ (j : Nat) (v : Value), news[j]? = some v → w.cell? ⟨g, d + j, none⟩ = some v ∧ v.oneCell' = true := fun j v hj => by
            have hlt : j < cs.length := by rw [← n1]; exact (List.getElem?_eq_some_iff.1 hj).1
            obtain ⟨y, q1, q2, _, q4⟩ := n2 j _ (List.getElem?_eq_getElem hlt)
            rw [hj] at q1; cases q1; exact ⟨q2, q4⟩
          refine ⟨news, src_slice (slice_under (htt _ _ hu) hd) (by rw [n1]; exact hl) (fun z hz => ?_) (.inr ⟨g, d, rfl, fun j v hj => (n3 j v hj).1⟩), TRl.of_get n1 fun i x y hi hy => ?_⟩
          · obtain ⟨j, hj, hje⟩ := List.getElem_of_mem hz
            exact (n3 j z (by rw [List.getElem?_eq_getElem hj, hje])).2
          · obtain ⟨y', q1, _, q3, q4⟩ := n2 i x hi
            rw [hy] at q1; cases q1; exact ⟨q3, q4⟩
      · cases h
    · rename_i e' k ver off n hd
      split at h
      · rename_i ee
        subst ee
        split at h
        · rename_i b hb
          split at h
          · rename_i hc
            obtain ⟨hr, hbt, hle⟩ := hc
            cases h
            unfold VX at hx
            obtain ⟨p, p1, p2⟩ := hx
            subst hbt
            obtain ⟨hsz, hrow⟩ := row_info hm hb hr (htt _ _ he) p1
            have hlen := hrow.len
            rw [hsz] at hlen
            have hcl : (cut b.cs off m ie.size).length = m * ie.size := by
              simp only [cut, List.length_take, List.length_drop, hlen]
              rw [← Nat.sub_mul]
              have : m * ie.size ≤ (b.n - off) * ie.size := Nat.mul_le_mul_right _ (by omega)
              omega
            rcases p2 with ⟨v1, ⟨ad, rfl⟩, rfl, rfl⟩ | ⟨g, m0, cap, ad, v1, rfl, v3, v4⟩
            · have : cut b.cs 0 0 ie.size = [] := by simp [cut]
              rw [this]
              exact ⟨[], src_slice (slice_under (htt _ _ hu) hd) (by simp) (by simp) (.inl rfl), by simp [TRl]⟩
            · by_cases hm0 : m = 0
              · subst hm0
                have : cut b.cs off 0 ie.size = [] := by simp [cut]
                rw [this]
                exact ⟨[], src_slice (slice_under (htt _ _ hu) hd) (by simp) (by simp) (.inl rfl), by simp [TRl]⟩
              · have had := v4 (.inl (by omega))
                subst had
                rcases hrow.v with ⟨z1, _⟩ | ⟨g', cap', cur, z1, z2, z3, z4, z5, z6, _⟩
                · rw [v1] at z1; cases z1
                · rw [v1] at z1; cases z1
                  have hcell : ∀ j', w.cell? ⟨g, j', none⟩ = cur[j']? := fun j' => cell_of_row w g j' cur b.t (0, 0) z2
                  let news := (cur.toList.drop (off * ie.size)).take (m * ie.size)
                  have hbig : (off + m) * ie.size ≤ b.n * ie.size := Nat.mul_le_mul_right _ hle
                  have hbig2 : b.n * ie.size ≤ cap * ie.size := Nat.mul_le_mul_right _ z3
                  rw [Nat.add_mul] at hbig
                  have hnl : news.length = m * ie.size := by simp [news]; rw [z5, hsz]; omega
                  have htr : TRl cx.R w (cut b.cs off m ie.size) news := by
                    refine TRl.of_get (by rw [hnl, hcl]) fun i x y hi hy => ?_
                    simp only [cut, news] at hi hy
                    rw [List.getElem?_take] at hi hy
                    split at hi
                    · rename_i hilt
                      rw [if_pos hilt, List.getElem?_drop] at hy
                      rw [List.getElem?_drop] at hi
                      obtain ⟨y', q1, q2⟩ := z6.get _ _ hi
                      rw [List.getElem?_take, if_pos (by rw [hsz]; omega), hy] at q1
                      cases q1; exact q2
                    · cases hi
                  refine ⟨news, src_slice (slice_under (htt _ _ hu) hd) hnl (fun z hz => ?_) (.inr ⟨g, off * ie.size, by rw [hsz], fun j v hj => ?_⟩), htr⟩
                  · obtain ⟨j, hj, hje⟩ := List.getElem_of_mem hz
                    have hj' : j < (cut b.cs off m ie.size).length := by rw [hcl, ← hnl]; exact hj
                    obtain ⟨y', q1, _, q3⟩ := htr.get j _ (List.getElem?_eq_getElem hj')
                    rw [List.getElem?_eq_getElem hj, hje] at q1; cases q1; exact q3
                  · rw [hcell]
                    simp only [news] at hj
                    rw [List.getElem?_take] at hj
                    split at hj
                    · rw [List.getElem?_drop] at hj; simpa using hj
                    · cases hj
          · cases h
        · cases h
      · cases h
    · rename_i s hd
      split at h
      · rename_i h1
        cases h
        have := VX.v_inv hx
        subst this
        rw [h1]
        exact ⟨_, src_string (str_under (htt _ _ hu) hd) s, TRl_str _ _⟩
      · cases h
    · cases h
end
end Go.Lift
