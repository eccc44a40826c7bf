/- One operation: the machine does what the evaluator says (part 2). -/
import Derived.Test.YthekbbgpmiogdaaLZK
namespace Go.Lift
open Go Go.RowKit

section
variable {P : Program} {TT : TTab} {fx : Fx} {cx : Cx} {σ : St} {a : Act} {w : World} {o : Oper} {K : St → Prop} {next : Act → World → Prop} {Q : Exit → Act → World → Prop}

theorem field_info {s : TypeId} {i : TI} {f off : Nat} {t : TypeId} (hi : TIok P s i) (hf : fieldOf i f = some (off, t)) : ∃ gs : Array Field, P.underlying s = some (.struct gs) ∧ ∃ fl, gs[f]? = some fl ∧ fl.offset = off ∧ fl.type = t := by
  obtain ⟨d, h1, h2, _⟩ := hi.desc
  unfold fieldOf at hf
  cases hd : i.desc <;> rw [hd] at hf h2 <;> simp at hf
  rename_i fs
  obtain ⟨gs, rfl, hg⟩ := h2
  refine ⟨gs, h1, ?_⟩
  rw [← hg, List.getElem?_map, Option.map_eq_some_iff] at hf
  obtain ⟨fl, e1, e2⟩ := hf
  refine ⟨fl, by simpa using e1, ?_⟩
  cases e2; exact ⟨rfl, rfl⟩
theorem run_fieldAt {s : TypeId} {i it : TI} {f off : Nat} {t : TypeId} (htt : TTok P TT) (hs : TT s = some i) (hf : fieldOf i f = some (off, t)) (ht : TT t = some it) (g d : Nat) :
    (Instr.fieldAt s (.pointer (some ⟨g, d, none⟩)) f).run P w = .ok (.pointer (some ⟨g, d + off, none⟩)) w := by
  obtain ⟨gs, h1, fl, h2, h3, h4⟩ := field_info (htt _ _ hs) hf
  have hsz := sizeOf_run (P := P) (w := w) (htt _ _ ht)
  have hp := (htt _ _ ht).pos
  simp only [Instr.fieldAt, Sem.run_bind, run_underlying h1, Result.andThen_ok, h2, Instr.sureAddr, Sem.run_pure, fieldPlace, h4, hsz]
  rw [if_neg (by omega)]
  simp [Addr.add_lit, h3]
theorem step_fieldAddr {s : TypeId} {x : Operand} {f : Nat} {i it : TI} {off : Nat} {t : TypeId} {k ver p : Nat} (htt : TTok P TT) (ho : o.op = .fieldAddr s x f) (hs : Sim P fx cx σ a w) (h1 : TT s = some i) (hf : fieldOf i f = some (off, t)) (ht : TT t = some it)
    (hx : ev σ x = some (.ptr k ver p)) (h2 : fin o σ (.ptr k ver (p + off)) σ.L K) (hn : Nx P fx cx K next) : o.wp P a w next Q := by
  have h := ev_sound hs.s hx
  unfold VX at h
  obtain ⟨pl, p1, g, d, p2, e⟩ := h
  refine pure_sound hs (y := .pointer (some ⟨g, d + p + off, none⟩)) (by simp [execOp, ho, e, run_fieldAt htt h1 hf ht]) ?_ h2 hn
  unfold VX
  exact ⟨pl, p1, g, d, p2, by rw [Nat.add_assoc]⟩
theorem step_fieldAddr_ro {s : TypeId} {x : Operand} {f : Nat} {i it : TI} {off : Nat} {t : TypeId} {cs : List IV} {p : Nat} (htt : TTok P TT) (ho : o.op = .fieldAddr s x f) (hs : Sim P fx cx σ a w) (h1 : TT s = some i) (hf : fieldOf i f = some (off, t)) (ht : TT t = some it)
    (hx : ev σ x = some (.rp cs p)) (h2 : fin o σ (.rp cs (p + off)) σ.L K) (hn : Nx P fx cx K next) : o.wp P a w next Q := by
  have h := ev_sound hs.s hx
  unfold VX at h
  obtain ⟨b, d, e, p1, p2⟩ := h
  refine pure_sound hs (y := .pointer (some ⟨b, d + p + off, none⟩)) (by simp [execOp, ho, e, run_fieldAt htt h1 hf ht]) ?_ h2 hn
  unfold VX
  exact ⟨b, d, by rw [Nat.add_assoc], p1, p2⟩
theorem run_part {t : TypeId} {i : TI} (hi : TIok P t i) {cs : List IV} {off : Nat} {v : IV} (hv : partIV i cs off = some v) {arr : Array Value} (hc : VXl cx w cs arr.toList) (h1 : ∀ z ∈ arr.toList, z.oneCell' = true) :
    ∃ y, (part t arr off).run P w = .ok y w ∧ VX cx w v y := by
  unfold partIV at hv
  split at hv
  · rename_i hA
    split at hv
    · rename_i hl
      cases hv
      refine ⟨.agg (arr.extract off (off + i.size)), by simp [part, isAgg_run hi, hA, sizeOf_run hi], ?_⟩
      unfold VX
      refine ⟨_, rfl, ?_, fun z hz => h1 z ?_⟩
      · have hlen : arr.toList.length = cs.length := hc.length
        have e : (arr.extract off (off + i.size)).toList = (arr.toList.drop off).take i.size := by
          simp [List.extract_eq_take_drop]
        rw [e]
        refine VXl.of_get (by simp; simp at hlen; omega) fun j x y hx hy => ?_
        rw [List.getElem?_take] at hx hy
        split at hx
        · rw [if_pos ‹_›, List.getElem?_drop] at hy
          rw [List.getElem?_drop] at hx
          obtain ⟨y', q1, q2⟩ := hc.get _ _ hx
          rw [q1] at hy; cases hy; exact q2
        · cases hx
      · simp [List.extract_eq_take_drop] at hz
        simpa using List.mem_of_mem_drop (List.mem_of_mem_take hz)
    · cases hv
  · rename_i hA
    obtain ⟨y, q1, q2⟩ := hc.get _ _ hv
    refine ⟨y, ?_, q2⟩
    have q1' : arr[off]? = some y := by simpa using q1
    simp [part, isAgg_run hi, hA, q1']
theorem step_field {s : TypeId} {x : Operand} {f : Nat} {i it : TI} {off : Nat} {t : TypeId} {cs : List IV} {v : IV} (htt : TTok P TT) (ho : o.op = .field s x f) (hs : Sim P fx cx σ a w) (h1 : TT s = some i) (hf : fieldOf i f = some (off, t)) (ht : TT t = some it)
    (hx : ev σ x = some (.agg cs)) (hv : partIV it cs off = some v) (h2 : fin o σ v σ.L K) (hn : Nx P fx cx K next) : o.wp P a w next Q := by
  have h := ev_sound hs.s hx
  unfold VX at h
  obtain ⟨arr, e, c1, c2⟩ := h
  obtain ⟨gs, g1, fl, g2, g3, g4⟩ := field_info (htt _ _ h1) hf
  obtain ⟨y, r1, r2⟩ := run_part (htt _ _ ht) hv c1 c2
  exact pure_sound hs (y := y) (by simp [execOp, ho, e, Instr.field, run_underlying g1, g2, asAgg, g3, g4, r1]) r2 h2 hn

theorem slice_under {t e : TypeId} {i : TI} (hi : TIok P t i) (hd : i.desc = .slice e) : P.underlying t = some (.slice e) := by
  obtain ⟨d, h1, h2, _⟩ := hi.desc
  rw [hd] at h2; simp only [DescOk] at h2; rw [h1, h2]
theorem arr_under {t e : TypeId} {n : Nat} {i : TI} (hi : TIok P t i) (hd : i.desc = .arr n e) : P.underlying t = some (.array n e) := by
  obtain ⟨d, h1, h2, _⟩ := hi.desc
  rw [hd] at h2; simp only [DescOk] at h2; rw [h1, h2]
theorem str_under {t : TypeId} {i : TI} (hi : TIok P t i) (hd : i.desc = .str) : P.underlying t = some .string := by
  obtain ⟨d, h1, h2, _⟩ := hi.desc
  rw [hd] at h2; simp only [DescOk] at h2; rw [h1, h2]

theorem run_indexAt_slice {t e : TypeId} {ie : TI} (ht : P.underlying t = some (.slice e)) (he : TIok P e ie) {b o' n c : Nat} {k : IntKind} {j : Int} (h0 : 0 ≤ j) (hj : j < n) :
    (Instr.indexAt t (.slice (some ⟨b, o', none⟩) n c) (.int k j)).run P w = .ok (.pointer (some ⟨b, o' + j.toNat * ie.size, none⟩)) w := by
  simp [Instr.indexAt, asIntOf, run_underlying ht, h0, hj, sizeOf_run he, Addr.add_lit]
theorem step_indexAddr_ro {t e : TypeId} {x y : Operand} {i ie : TI} {n : Nat} {cs : List IV} {k : IntKind} {j : Int} (htt : TTok P TT) (ho : o.op = .indexAddr t x y) (hs : Sim P fx cx σ a w) (h1 : TT t = some i) (hd : i.desc = .slice e) (he : TT e = some ie)
    (hx : ev σ x = some (.tr n cs)) (hy : ev σ y = some (.v (.int k j))) (h0 : 0 ≤ j) (hj : j < n) (hne : cs ≠ []) (h2 : fin o σ (.rp cs (j.toNat * ie.size)) σ.L K) (hn : Nx P fx cx K next) : o.wp P a w next Q := by
  have h := ev_sound hs.s hx
  have ey := VX.v_inv (ev_sound hs.s hy)
  unfold VX TR at h
  obtain ⟨b, c, e1, _, h3⟩ := h
  rcases h3 with h3 | ⟨g, d, rfl, hR, hm⟩
  · exact absurd h3 hne
  · refine pure_sound hs (y := .pointer (some ⟨g, d + j.toNat * ie.size, none⟩)) (by simp [execOp, ho, e1, ey, run_indexAt_slice (slice_under (htt _ _ h1) hd) (htt _ _ he) h0 hj]) ?_ h2 hn
    unfold VX
    exact ⟨g, d, rfl, hR, hm⟩
theorem row_info {k ver : Nat} {b : Blk} {p : Plc} {ie : TI} (hs : Mem P fx cx σ w) (hb : blkAt σ.L k ver = some b) (hr : b.row = true) (he : TIok P b.t ie) (hp : cx.pl k ver = some p) : p.sz = ie.size ∧ RowOk P cx w p b := by
  obtain ⟨p', q1, q2, q3⟩ := hs.atv hb
  rw [hp] at q2; cases q2
  rcases q3 with ⟨_, q3⟩ | ⟨h, _⟩
  · obtain ⟨j', hj', hsz, _⟩ := q3.info
    obtain ⟨j, hj, hj2, _⟩ := he.info
    rw [hj] at hj'; cases hj'
    exact ⟨by rw [← hsz, hj2], q3⟩
  · rw [hr] at h; cases h
theorem step_indexAddr {t e : TypeId} {x y : Operand} {i ie : TI} {k ver off n : Nat} {b : Blk} {kk : IntKind} {j : Int} (htt : TTok P TT) (ho : o.op = .indexAddr t x y) (hs : Sim P fx cx σ a w) (h1 : TT t = some i) (hd : i.desc = .slice e) (he : TT e = some ie)
    (hx : ev σ x = some (.sl k ver off n)) (hy : ev σ y = some (.v (.int kk j))) (hb : blkAt σ.L k ver = some b) (h0 : 0 ≤ j) (hj : j < n) (hbt : b.t = e) (hr : b.row = true) (h2 : fin o σ (.ptr k ver ((off + j.toNat) * ie.size)) σ.L K) (hn : Nx P fx cx K next) : o.wp P a w next Q := by
  have h := ev_sound hs.s hx
  have ey := VX.v_inv (ev_sound hs.s hy)
  unfold VX at h
  obtain ⟨p, p1, p2⟩ := h
  subst hbt
  obtain ⟨hsz, _⟩ := row_info hs.m hb hr (htt _ _ he) p1
  rcases p2 with ⟨_, _, _, rfl⟩ | ⟨g, m, cap, ad, v1, v2, v3, v4⟩
  · omega
  · have had := v4 (.inl (by omega))
    subst had
    refine pure_sound hs (y := .pointer (some ⟨g, off * p.sz + j.toNat * ie.size, none⟩)) (by simp [execOp, ho, v2, ey, run_indexAt_slice (slice_under (htt _ _ h1) hd) (htt _ _ he) h0 hj]) ?_ h2 hn
    unfold VX
    exact ⟨p, p1, g, 0, .inr ⟨rfl, m, cap, v1⟩, by rw [hsz, Nat.zero_add, Nat.add_mul]⟩
theorem step_indexAddr_arr {t e : TypeId} {x y : Operand} {i ie : TI} {k ver off n : Nat} {kk : IntKind} {j : Int} (htt : TTok P TT) (ho : o.op = .indexAddr t x y) (hs : Sim P fx cx σ a w) (h1 : TT t = some i) (hd : i.desc = .arr n e) (he : TT e = some ie)
    (hx : ev σ x = some (.ptr k ver off)) (hy : ev σ y = some (.v (.int kk j))) (h0 : 0 ≤ j) (hj : j < n) (h2 : fin o σ (.ptr k ver (off + j.toNat * ie.size)) σ.L K) (hn : Nx P fx cx K next) : o.wp P a w next Q := by
  have h := ev_sound hs.s hx
  have ey := VX.v_inv (ev_sound hs.s hy)
  unfold VX at h
  obtain ⟨p, p1, g, d, p2, ex⟩ := h
  refine pure_sound hs (y := .pointer (some ⟨g, d + off + j.toNat * ie.size, none⟩)) ?_ ?_ h2 hn
  · simp [execOp, ho, ex, ey, Instr.indexAt, asIntOf, run_underlying (arr_under (htt _ _ h1) hd), Instr.sureAddr, h0, hj, sizeOf_run (htt _ _ he), Addr.add_lit]
  · unfold VX
    exact ⟨p, p1, g, d, p2, by rw [Nat.add_assoc]⟩
theorem step_index_str {t : TypeId} {x y : Operand} {i : TI} {s : ByteArray} {kk : IntKind} {j : Int} (htt : TTok P TT) (ho : o.op = .index t x y) (hs : Sim P fx cx σ a w) (h1 : TT t = some i) (hd : i.desc = .str)
    (hx : ev σ x = some (.v (.string s))) (hy : ev σ y = some (.v (.int kk j))) (h0 : 0 ≤ j) (hj : j < s.size) (h2 : fin o σ (.v (.int .u8 (s.data.toList.getD j.toNat 0).toNat)) σ.L K) (hn : Nx P fx cx K next) : o.wp P a w next Q := by
  have ex := VX.v_inv (ev_sound hs.s hx)
  have ey := VX.v_inv (ev_sound hs.s hy)
  have hlt : j.toNat < s.size := by omega
  have e : s[j.toNat]? = some (s.data.toList.getD j.toNat 0) := by
    rw [getElem?_pos s j.toNat hlt]
    congr 1
    have : j.toNat < s.data.toList.length := by simpa using hlt
    rw [List.getD_eq_getElem?_getD, List.getElem?_eq_getElem this]
    rfl
  refine pure_sound hs (y := .int .u8 (s.data.toList.getD j.toNat 0).toNat) ?_ (by simp [VX]) h2 hn
  simp [execOp, ho, ex, ey, Instr.index, asIntOf, run_underlying (str_under (htt _ _ h1) hd), h0, e]
theorem step_index_arr {t e : TypeId} {x y : Operand} {i ie : TI} {n : Nat} {cs : List IV} {kk : IntKind} {j : Int} {v : IV} (htt : TTok P TT) (ho : o.op = .index t x y) (hs : Sim P fx cx σ a w) (h1 : TT t = some i) (hd : i.desc = .arr n e) (he : TT e = some ie)
    (hx : ev σ x = some (.agg cs)) (hy : ev σ y = some (.v (.int kk j))) (h0 : 0 ≤ j) (hj : j < n) (hv : partIV ie cs (j.toNat * ie.size) = some v) (h2 : fin o σ v σ.L K) (hn : Nx P fx cx K next) : o.wp P a w next Q := by
  have h := ev_sound hs.s hx
  have ey := VX.v_inv (ev_sound hs.s hy)
  unfold VX at h
  obtain ⟨arr, ex, c1, c2⟩ := h
  obtain ⟨u, r1, r2⟩ := run_part (htt _ _ he) hv c1 c2
  exact pure_sound hs (y := u) (by simp [execOp, ho, ex, ey, Instr.index, asIntOf, run_underlying (arr_under (htt _ _ h1) hd), h0, hj, sizeOf_run (htt _ _ he), r1]) r2 h2 hn
theorem step_extract {x : Operand} {j : Nat} {vs : List IV} {v : IV} (ho : o.op = .extract x j) (hs : Sim P fx cx σ a w) (hx : ev σ x = some (.tup vs)) (hv : vs[j]? = some v) (h2 : fin o σ v σ.L K) (hn : Nx P fx cx K next) : o.wp P a w next Q := by
  have h := ev_sound hs.s hx
  unfold VX at h
  obtain ⟨arr, e, c1⟩ := h
  obtain ⟨y, q1, q2⟩ := c1.get _ _ hv
  have q1' : arr[j]? = some y := by simpa using q1
  exact pure_sound hs (y := y) (by simp [execOp, ho, e, Instr.extract, q1']) q2 h2 hn
end
end Go.Lift
