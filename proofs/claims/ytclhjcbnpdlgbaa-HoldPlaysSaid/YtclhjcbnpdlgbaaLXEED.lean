import Derived.Test.YtclhjcbnpdlgbaaLXEJB
import Derived.Test.YtclhjcbnpdlgbaaLA3
set_option linter.unusedVariables false
set_option linter.unusedSimpArgs false
/- Vectors, plainly: what comes of knowing farther, and of joining. -/
namespace Go.Proofs.Ytclhjcbnpdlgbaa.Vc
open Go Go.Lift
set_option maxHeartbeats 4000000
set_option linter.unusedSimpArgs false
set_option linter.unusedVariables false

structure Vec (l : List Ve) : Prop where
  s : Srt l
  b : ∀ x ∈ l, (0 ≤ x.1 ∧ x.1 ≤ 65535) ∧ (1 ≤ x.2 ∧ x.2 ≤ 268435456)
theorem Vec.ok {l : List Ve} (h : Vec l) : okVe l := fun x hx => by have := h.b x hx; omega
theorem Vec.of {l : List Ve} (h : rightB l = true) (hl : ∀ x ∈ l, 0 ≤ x.1 ∧ x.1 ≤ 65535) : Vec l :=
  ⟨(rightB_inv h).1, fun x hx => ⟨hl x hx, (rightB_inv h).2 x hx⟩⟩
def withV (l : List Ve) (r q : Int) : List Ve := l.filter (fun x => decide (x.1 < r)) ++ ((if 0 < q then [(r, q)] else []) ++ l.filter (fun x => decide (r < x.1)))
theorem filter_lt : ∀ {l : List Ve} {r : Int}, Srt l → l.filter (fun x => decide (x.1 < r)) = l.take (pos l r)
  | [], r, _ => rfl
  | a :: l, r, hs => by
    obtain ⟨h1, h2⟩ := List.pairwise_cons.1 hs
    have ih := filter_lt (r := r) h2
    by_cases ha : a.1 < r
    · rw [List.filter_cons_of_pos (by simpa using ha), ih]
      have : pos (a :: l) r = pos l r + 1 := by unfold pos; rw [List.countP_cons, if_pos (by simpa using ha)]
      rw [this, List.take_succ_cons]
    · have h0 : pos (a :: l) r = 0 := by
        unfold pos
        rw [List.countP_eq_zero]
        intro y hy
        rcases List.mem_cons.1 hy with rfl | hy
        · simpa using ha
        · have := h1 y hy
          simp only [decide_eq_true_eq]; omega
      rw [h0, List.take_zero, List.filter_eq_nil_iff]
      intro y hy
      rcases List.mem_cons.1 hy with rfl | hy
      · simpa using ha
      · have := h1 y hy
        simp only [decide_eq_true_eq]; omega
theorem filter_gt : ∀ {l : List Ve} {r : Int}, Srt l → l.filter (fun x => decide (r < x.1)) = l.drop (if has l r = true then pos l r + 1 else pos l r)
  | [], r, _ => by simp
  | a :: l, r, hs => by
    obtain ⟨h1, h2⟩ := List.pairwise_cons.1 hs
    have ih := filter_gt (r := r) h2
    by_cases ha : a.1 < r
    · rw [List.filter_cons_of_neg (by simp; omega), ih]
      have hp : pos (a :: l) r = pos l r + 1 := by unfold pos; rw [List.countP_cons, if_pos (by simpa using ha)]
      have hh : has (a :: l) r = has l r := by unfold has; rw [hp]; rfl
      rw [hp, hh]
      split <;> rfl
    · have h0 : pos (a :: l) r = 0 := by
        unfold pos
        rw [List.countP_eq_zero]
        intro y hy
        rcases List.mem_cons.1 hy with rfl | hy
        · simpa using ha
        · have := h1 y hy
          simp only [decide_eq_true_eq]; omega
      have hh : has (a :: l) r = decide (a.1 = r) := by unfold has; rw [h0]; rfl
      have hall : l.filter (fun x => decide (r < x.1)) = l := List.filter_eq_self.2 fun y hy => by
        have := h1 y hy
        simp only [decide_eq_true_eq]; omega
      rw [h0, hh]
      by_cases he : a.1 = r
      · rw [List.filter_cons_of_neg (by simp; omega), hall, if_pos (by simpa using he)]; rfl
      · rw [List.filter_cons_of_pos (by simp; omega), hall, if_neg (by simpa using he)]; rfl
theorem withV_eq {l : List Ve} (hs : Srt l) (r q : Int) : withV l r q = l.take (pos l r) ++ ((if 0 < q then [(r, q)] else []) ++ l.drop (if has l r = true then pos l r + 1 else pos l r)) := by
  unfold withV; rw [filter_lt hs, filter_gt hs]
theorem withV_mem {l : List Ve} {r q : Int} {x : Ve} : x ∈ withV l r q ↔ (x ∈ l ∧ x.1 ≠ r) ∨ (0 < q ∧ x = (r, q)) := by
  unfold withV
  simp only [List.mem_append, List.mem_filter, decide_eq_true_eq]
  by_cases hq : 0 < q
  · rw [if_pos hq, List.mem_singleton]
    constructor
    · rintro (⟨h, h'⟩ | h | ⟨h, h'⟩)
      · exact .inl ⟨h, by omega⟩
      · exact .inr ⟨hq, h⟩
      · exact .inl ⟨h, by omega⟩
    · rintro (⟨h, h'⟩ | ⟨_, h⟩)
      · rcases Int.lt_or_gt_of_ne h' with h' | h'
        · exact .inl ⟨h, h'⟩
        · exact .inr (.inr ⟨h, h'⟩)
      · exact .inr (.inl h)
  · rw [if_neg hq]
    constructor
    · rintro (⟨h, h'⟩ | h | ⟨h, h'⟩)
      · exact .inl ⟨h, by omega⟩
      · simp at h
      · exact .inl ⟨h, by omega⟩
    · rintro (⟨h, h'⟩ | ⟨h, _⟩)
      · rcases Int.lt_or_gt_of_ne h' with h' | h'
        · exact .inl ⟨h, h'⟩
        · exact .inr (.inr ⟨h, h'⟩)
      · exact absurd h hq
theorem withV_srt {l : List Ve} (hs : Srt l) (r q : Int) : Srt (withV l r q) := by
  unfold withV Srt
  refine List.pairwise_append.2 ⟨List.Pairwise.filter _ hs, List.pairwise_append.2 ⟨?_, List.Pairwise.filter _ hs, ?_⟩, ?_⟩
  · split <;> simp
  · intro a ha b hb
    have hb := (List.mem_filter.1 hb).2
    simp only [decide_eq_true_eq] at hb
    split at ha
    · simp at ha; subst ha; exact hb
    · simp at ha
  · intro a ha b hb
    have ha := (List.mem_filter.1 ha).2
    simp only [decide_eq_true_eq] at ha
    rcases List.mem_append.1 hb with hb | hb
    · split at hb
      · simp at hb; subst hb; exact ha
      · simp at hb
    · have hb := (List.mem_filter.1 hb).2
      simp only [decide_eq_true_eq] at hb
      omega
theorem withV_vec {l : List Ve} (h : Vec l) {r q : Int} (hr : 0 ≤ r ∧ r ≤ 65535) (hq : 0 ≤ q ∧ q ≤ 268435456) : Vec (withV l r q) :=
  ⟨withV_srt h.s r q, fun x hx => by
    rcases withV_mem.1 hx with ⟨hx, _⟩ | ⟨h1, rfl⟩
    · exact h.b x hx
    · exact ⟨hr, by simp only; omega⟩⟩
theorem withV_len (l : List Ve) (hs : Srt l) (r q : Int) : (withV l r q).length ≤ l.length + 1 := by
  rw [withV_eq hs]
  simp only [List.length_append, List.length_take, List.length_drop]
  have hp := pos_le l r
  have : (if 0 < q then [(r, q)] else [] : List Ve).length ≤ 1 := by split <;> simp
  generalize (if 0 < q then [(r, q)] else [] : List Ve) = e at *
  split <;> omega
def addV (o : List Ve) (x : Ve) : List Ve := if getV o x.1 < x.2 then withV o x.1 x.2 else o
def joinV (v w : List Ve) : List Ve := w.foldl addV v
theorem joinV_cons (v w : List Ve) (x : Ve) : joinV v (x :: w) = joinV (addV v x) w := rfl
theorem joinV_snoc (v w : List Ve) (x : Ve) : joinV v (w ++ [x]) = addV (joinV v w) x := by unfold joinV; rw [List.foldl_append]; rfl
theorem addV_vec {o : List Ve} (h : Vec o) {x : Ve} (hx : (0 ≤ x.1 ∧ x.1 ≤ 65535) ∧ (1 ≤ x.2 ∧ x.2 ≤ 268435456)) : Vec (addV o x) := by
  unfold addV
  split
  · exact withV_vec h hx.1 (by omega)
  · exact h
theorem addV_len {o : List Ve} (h : Vec o) (x : Ve) : (addV o x).length ≤ o.length + 1 := by
  unfold addV
  split
  · exact withV_len o h.s _ _
  · omega
theorem joinV_vec : ∀ {w v : List Ve}, Vec v → (∀ x ∈ w, (0 ≤ x.1 ∧ x.1 ≤ 65535) ∧ (1 ≤ x.2 ∧ x.2 ≤ 268435456)) → Vec (joinV v w) ∧ (joinV v w).length ≤ v.length + w.length
  | [], v, h, _ => ⟨h, by simp [joinV]⟩
  | x :: w, v, h, hw => by
    have h1 := addV_vec h (hw x (by simp))
    have h2 := addV_len h x
    have ih := joinV_vec (w := w) h1 fun y hy => hw y (by simp [hy])
    rw [joinV_cons]
    refine ⟨ih.1, ?_⟩
    have := ih.2
    simp only [List.length_cons]; omega
theorem join_vec {v w : List Ve} (hv : Vec v) (hw : Vec w) : Vec (joinV v w) := (joinV_vec hv hw.b).1
end Go.Proofs.Ytclhjcbnpdlgbaa.Vc
/- package vector: With, Join. -/
namespace Go.Proofs.Ytclhjcbnpdlgbaa.Vc
open Go Go.Lift
set_option maxHeartbeats 4000000
set_option linter.unusedSimpArgs false
set_option linter.unusedVariables false
attribute [local irreducible] WK IL IP IG IW DW

theorem clone0_call : SCall Try.prog 41 [.tr 0 []] (.own 89 0 true []) [.tr 0 []] := by
  refine SCall.of_body' (TT := TT) (fun _ => false) [false] ttok Try.func41 rfl (Nat.le_of_ble_eq_true rfl) rfl fun fx hfx => WK.top ?_
  simp only [impl, imp, argT, List.append_nil, List.map_nil, List.nil_append, show Try.f41.ntmps = 8 from rfl, Nat.zero_add, Nat.reduceAdd]
  refine WK.seq ?_
  repeat' (first | refine WK.seq ?_ | refine WK.reg ?_ | refine IL.nil ?_ | refine WK.skip ?_ | (with_reducible refine IL.wr ?_ ?_; focus exact cW) | refine IL.sg ttok ?_ | (refine WK.cn (fun h => ?_) (fun h => ?_); all_goals first | (simp only [reduceCtorEq] at h; done) | (simp only [hsA, hsD, hsE, ne_eq] at h; first | done | (exfalso; omega; done) | skip) | skip))
  refine IL.nilcmpU (σ' := ?_) ttok (.inl rfl) rfl rfl rfl rfl (fun b K hK => ?_) (fun b => ?_); rotate_left 1
  · simp only [go_sem]; exact hK
  repeat' (first | refine WK.seq ?_ | refine WK.reg ?_ | refine IL.nil ?_ | refine WK.skip ?_ | (with_reducible refine IL.wr ?_ ?_; focus exact cW) | refine IL.sg ttok ?_ | (refine WK.cn (fun h => ?_) (fun h => ?_); all_goals first | (simp only [reduceCtorEq] at h; done) | (simp only [hsA, hsD, hsE, ne_eq] at h; first | done | (exfalso; omega; done) | skip) | skip))
  all_goals try ((first | refine WK.ret ⟨.inr rfl, ?_⟩ | refine ⟨.inl rfl, ?_⟩ | refine ⟨.inl trivial, ?_⟩); refine Fin.o ?_ ?_ (h1 := by first | rfl | (simp only [go_sem, show Try.f41.results.toList = [.tmp 2] from rfl, reduceIte] <;> rfl)); rotate_left 1; (focus (first | rfl | skip)); all_goals try with_reducible rfl)
  all_goals skip
theorem clone_any (l : List Ve) (hl : l.length ≤ 1000000) : SCall Try.prog 41 [.tr l.length (encs veC l)] (.own 89 l.length true (encs veC l)) [.tr l.length (encs veC l)] := by
  cases l with
  | nil => exact clone0_call
  | cons a l => exact clone_call _ (by simp) (by omega)
set_option maxRecDepth 100000 in
theorem info118 : ∃ i, (Try.prog).info? 89 = some i ∧ i.size = 2 ∧ i.zero = some (.agg #[.int .u16 0, .int .u32 0]) ∧ i.bytes = 8 := ⟨_, rfl, rfl, rfl, rfl⟩
theorem vins_call (l : List Ve) (x : Ve) (i : Nat) (hi : i ≤ l.length) (hn : l.length ≤ 1000000) :
    SCall Try.prog 44 [.own 89 l.length true (encs veC l), .v (.int .i64 i), .own 89 1 true [.v (.int .u16 x.1), .v (.int .u32 x.2)]]
      (.own 89 (l.length + 1) true (encs veC (l.take i ++ ([x] ++ l.drop i)))) [.gone, .v (.int .i64 i), .gone] := by
  obtain ⟨ie, h1, h2, h3, h4⟩ := info118
  have h := SCall.of_insert (P := Try.prog) (f := 44) (tS := 24) (tV := 23) (tI := 3) (kn := .i64) h1 h2 (by decide) h3 rfl (by kernel_rfl) (by kernel_rfl) (by kernel_rfl)
    ins_shift ins_end ins_grow i l.length 1 true (encs veC l) [.v (.int .u16 x.1), .v (.int .u32 x.2)] hi (by decide) (by simp only [maxLen]; omega) (by rw [h4]; omega)
  have e : (encs veC l).take (i * 2) ++ [.v (.int .u16 x.1), .v (.int .u32 x.2)] ++ (encs veC l).drop (i * 2) = encs veC (l.take i ++ ([x] ++ l.drop i)) := by
    rw [encs_take veC_length, encs_drop veC_length, List.append_assoc, ← encs_append, ← encs_append]; rfl
  rw [e] at h
  exact h
theorem vdel_call (l : List Ve) (i : Nat) (hi : i < l.length) (hn : l.length ≤ 1000000) :
    SCall Try.prog 43 [.own 89 l.length true (encs veC l), .v (.int .i64 i), .v (.int .i64 ((i : Int) + 1))]
      (.own 89 (i + (l.length - (i + 1))) true (encs veC (l.take i ++ l.drop (i + 1)))) [.gone, .v (.int .i64 i), .v (.int .i64 ((i : Int) + 1))] := by
  obtain ⟨ie, h1, h2, h3, h4⟩ := info118
  have h := SCall.of_delete (P := Try.prog) (f := 43) (tS := 24) h1 h2 (by decide) h3 rfl (by decide) (by kernel_rfl)
    del_walk i (i + 1) l.length true (encs veC l) (by omega) (by omega)
  have e : (encs veC l).take (i * 2) ++ (encs veC l).drop ((i + 1) * 2) = encs veC (l.take i ++ l.drop (i + 1)) := by
    rw [encs_take veC_length, encs_drop veC_length, ← encs_append]
  rw [e, show ((i + 1 : Nat) : Int) = (i : Int) + 1 by omega] at h
  exact h
end Go.Proofs.Ytclhjcbnpdlgbaa.Vc
/- package vector: With. -/
namespace Go.Proofs.Ytclhjcbnpdlgbaa.Vc
open Go Go.Lift
set_option maxHeartbeats 4000000
set_option linter.unusedSimpArgs false
set_option linter.unusedVariables false
attribute [local irreducible] WK IL IP IG IW DW

theorem with_call (l : List Ve) (r q : Int) (hv : Vec l) (hr : 0 ≤ r ∧ r ≤ 65535) (hq : 0 ≤ q ∧ q ≤ 268435456) (hn : l.length ≤ 100000) :
    SCall Try.prog 15 [.tr l.length (encs veC l), .v (.int .u16 r), .v (.int .u32 q)] (.own 89 (withV l r q).length true (encs veC (withV l r q))) [.tr l.length (encs veC l), .v (.int .u16 r), .v (.int .u32 q)] := by
  have hcl := clone_any l (by omega)
  have hfc := find_call l r hv.s hv.ok.r hr (by omega)
  have hwe := withV_eq hv.s r q
  have hp := pos_le l r
  by_cases hh : has l r = true
  · have hlt : pos l r < l.length := by
      unfold has at hh
      split at hh
      · rename_i x hx
        exact (List.getElem?_eq_some_iff.1 hx).1
      · cases hh
    rw [if_pos hh] at hwe
    by_cases h0 : 0 < q
    · have hx : l[pos l r]? = some l[pos l r] := List.getElem?_eq_getElem hlt
      have hxr : l[pos l r].1 = r := by
        unfold has at hh
        rw [hx] at hh
        simpa using hh
      have hw := with_has l r q l[pos l r] hv.s hv.ok.r hr (by omega) hx hxr (by omega)
      have e : l.set (pos l r) (r, q) = withV l r q := by
        rw [hwe, if_pos h0, List.set_eq_take_append_cons_drop, if_pos hlt]; rfl
      have e2 : (withV l r q).length = l.length := by rw [← e, List.length_set]
      rw [e] at hw
      rw [e2]
      exact hw
    · obtain rfl : q = 0 := by omega
      rw [if_neg h0, List.nil_append] at hwe
      have hde := vdel_call l (pos l r) hlt (by omega)
      have hln : (withV l r 0).length = pos l r + (l.length - (pos l r + 1)) := by
        rw [hwe, List.length_append, List.length_take, List.length_drop]; omega
      rw [hh] at hfc
      rw [hln, hwe]
      clear hwe hln hh
      generalize l.take (pos l r) ++ l.drop (pos l r + 1) = out at *
      generalize pos l r = m at *
      refine SCall.of_body' (TT := TT) (fun _ => false) [false, false, false] ttok Try.func15 rfl (Nat.le_of_ble_eq_true rfl) rfl fun fx hfx => WK.top ?_
      simp only [impl, imp, argT, List.append_nil, List.map_nil, List.nil_append, show Try.f15.ntmps = 48 from rfl, Nat.zero_add, Nat.reduceAdd]
      repeat' (first | refine WK.seq ?_ | refine WK.reg ?_ | refine IL.nil ?_ | refine WK.skip ?_ | refine WK.block ?_ | (with_reducible refine IL.wr ?_ ?_; focus exact cW) | refine IL.sg ttok ?_ | refine IL.nn ?_ | refine IL.cS ttok ent41 [.bor] true ?_ (hS := by exact hcl) | refine IL.cS ttok ent42 [.bor, .bor] true ?_ (hS := by exact hfc) | refine IL.cS ttok ent43 [.own, .bor, .bor] true ?_ (hS := by exact hde) | refine IL.cS ttok ent44 [.own, .bor, .own] true ?_ (hS := by exact hin) | ((first | ((first | refine IL.ag (fun h => ?_) (fun h => ?_) | refine IL.ap (fun h => ?_) (fun h => ?_)); (fail_if_success (focus (simp only [reduceCtorEq] at h)))) | refine WK.cn (fun h => ?_) (fun h => ?_)); all_goals first | (simp only [reduceCtorEq] at h; done) | (simp only [hsA, hsD, hsE, ne_eq] at h; first | done | (exfalso; omega; done) | skip) | skip))
      all_goals try ((first | refine WK.ret ⟨.inr rfl, ?_⟩ | refine ⟨.inl rfl, ?_⟩ | refine ⟨.inl trivial, ?_⟩); refine Fin.o ?_ ?_ (h1 := by first | rfl | (simp only [go_sem, show Try.f15.results.toList = [.tmp 6] from rfl, reduceIte] <;> rfl)); rotate_left 1; (focus (first | rfl | skip)); all_goals try with_reducible rfl)
      all_goals skip
  · have hh' : has l r = false := by simpa using hh
    rw [if_neg hh] at hwe
    rw [hh'] at hfc
    by_cases h0 : 0 < q
    · rw [if_pos h0] at hwe
      have hin := vins_call l (r, q) (pos l r) hp (by omega)
      have hln : (withV l r q).length = l.length + 1 := by
        rw [hwe]; simp only [List.length_append, List.length_take, List.length_drop, List.length_cons, List.length_nil]; omega
      rw [hln, hwe]
      clear hwe hln hh hh'
      generalize l.take (pos l r) ++ ([(r, q)] ++ l.drop (pos l r)) = out at *
      generalize pos l r = m at *
      have hq0 : ¬ q = 0 := by omega
      refine SCall.of_body' (TT := TT) (fun _ => false) [false, false, false] ttok Try.func15 rfl (Nat.le_of_ble_eq_true rfl) rfl fun fx hfx => WK.top ?_
      simp only [impl, imp, argT, List.append_nil, List.map_nil, List.nil_append, show Try.f15.ntmps = 48 from rfl, Nat.zero_add, Nat.reduceAdd]
      repeat' (first | refine WK.seq ?_ | refine WK.reg ?_ | refine IL.nil ?_ | refine WK.skip ?_ | refine WK.block ?_ | (with_reducible refine IL.wr ?_ ?_; focus exact cW) | refine IL.sg ttok ?_ | refine IL.nn ?_ | refine IL.cS ttok ent41 [.bor] true ?_ (hS := by exact hcl) | refine IL.cS ttok ent42 [.bor, .bor] true ?_ (hS := by exact hfc) | refine IL.cS ttok ent43 [.own, .bor, .bor] true ?_ (hS := by exact hde) | refine IL.cS ttok ent44 [.own, .bor, .own] true ?_ (hS := by exact hin) | ((first | ((first | refine IL.ag (fun h => ?_) (fun h => ?_) | refine IL.ap (fun h => ?_) (fun h => ?_)); (fail_if_success (focus (simp only [reduceCtorEq] at h)))) | refine WK.cn (fun h => ?_) (fun h => ?_)); all_goals first | (simp only [reduceCtorEq] at h; done) | (simp only [hsA, hsD, hsE, ne_eq] at h; first | done | (exfalso; omega; done) | skip) | skip))
      all_goals try ((first | refine WK.ret ⟨.inr rfl, ?_⟩ | refine ⟨.inl rfl, ?_⟩ | refine ⟨.inl trivial, ?_⟩); refine Fin.o ?_ ?_ (h1 := by first | rfl | (simp only [go_sem, show Try.f15.results.toList = [.tmp 6] from rfl, reduceIte] <;> rfl)); rotate_left 1; (focus (first | rfl | skip)); all_goals try with_reducible rfl)
      all_goals skip
    · obtain rfl : q = 0 := by omega
      rw [if_neg h0, List.nil_append, List.take_append_drop] at hwe
      rw [hwe]
      clear hwe hh hh'
      generalize pos l r = m at *
      refine SCall.of_body' (TT := TT) (fun _ => false) [false, false, false] ttok Try.func15 rfl (Nat.le_of_ble_eq_true rfl) rfl fun fx hfx => WK.top ?_
      simp only [impl, imp, argT, List.append_nil, List.map_nil, List.nil_append, show Try.f15.ntmps = 48 from rfl, Nat.zero_add, Nat.reduceAdd]
      repeat' (first | refine WK.seq ?_ | refine WK.reg ?_ | refine IL.nil ?_ | refine WK.skip ?_ | refine WK.block ?_ | (with_reducible refine IL.wr ?_ ?_; focus exact cW) | refine IL.sg ttok ?_ | refine IL.nn ?_ | refine IL.cS ttok ent41 [.bor] true ?_ (hS := by exact hcl) | refine IL.cS ttok ent42 [.bor, .bor] true ?_ (hS := by exact hfc) | refine IL.cS ttok ent43 [.own, .bor, .bor] true ?_ (hS := by exact hde) | refine IL.cS ttok ent44 [.own, .bor, .own] true ?_ (hS := by exact hin) | ((first | ((first | refine IL.ag (fun h => ?_) (fun h => ?_) | refine IL.ap (fun h => ?_) (fun h => ?_)); (fail_if_success (focus (simp only [reduceCtorEq] at h)))) | refine WK.cn (fun h => ?_) (fun h => ?_)); all_goals first | (simp only [reduceCtorEq] at h; done) | (simp only [hsA, hsD, hsE, ne_eq] at h; first | done | (exfalso; omega; done) | skip) | skip))
      all_goals try ((first | refine WK.ret ⟨.inr rfl, ?_⟩ | refine ⟨.inl rfl, ?_⟩ | refine ⟨.inl trivial, ?_⟩); refine Fin.o ?_ ?_ (h1 := by first | rfl | (simp only [go_sem, show Try.f15.results.toList = [.tmp 6] from rfl, reduceIte] <;> rfl)); rotate_left 1; (focus (first | rfl | skip)); all_goals try with_reducible rfl)
      all_goals skip
end Go.Proofs.Ytclhjcbnpdlgbaa.Vc
/- The document's vectors: With. -/
namespace Go.Proofs.Ytclhjcbnpdlgbaa.Vc
open Go Go.Lift
set_option maxHeartbeats 4000000
set_option linter.unusedSimpArgs false
set_option linter.unusedVariables false
attribute [local irreducible] WK IL IP IG IW DW

theorem filt_len (l : List Ve) (p : Ve → Bool) : (l.filter p).length ≤ l.length := List.length_filter_le _ _
theorem filt_snoc (l : List Ve) (x : Ve) (p : Ve → Bool) : (l ++ [x]).filter p = l.filter p ++ (if p x = true then [x] else []) := by rw [List.filter_append]; congr 1; by_cases h : p x = true <;> simp [h]
theorem refWith_call (l : List Ve) (r q : Int) (hn : l.length ≤ 100000) :
    SCall Try.prog 14 [.tr l.length (encs veC l), .v (.int .u16 r), .v (.int .u32 q)] (.own 90 (withV l r q).length true (encs veC (withV l r q))) [.tr l.length (encs veC l), .v (.int .u16 r), .v (.int .u32 q)] := by
  refine SCall.of_body' (TT := TT) (fun _ => false) [false, false, false] ttok Try.func14 rfl (Nat.le_of_ble_eq_true rfl) rfl fun fx hfx => WK.top ?_
  simp only [impl, imp, argT, List.append_nil, List.map_nil, List.nil_append, show Try.f14.ntmps = 59 from rfl, Nat.zero_add, Nat.reduceAdd]
  repeat' (first | refine WK.seq ?_ | refine WK.reg ?_ | refine IL.nil ?_ | refine WK.skip ?_ | refine WK.block ?_ | refine WK.exit_here ?_ | refine WK.e1 ?_ | refine WK.e2 ?_ | (with_reducible refine IL.wr ?_ ?_; focus exact cW) | refine IL.sg ttok ?_ | (refine WK.cn (fun h => ?_) (fun h => ?_); all_goals first | (simp only [reduceCtorEq] at h; done) | (simp only [hsA, hsD, hsE, ne_eq] at h; first | done | (exfalso; omega; done) | skip) | skip))
  refine WK.forS l.length (fun k => True) (fun k => ⟨59, [(0, .tr l.length (encs veC l)), (1, .v (.int .u16 r)), (2, .v (.int .u32 q)), (7, .sl 0 0 0 ((l.take k).filter fun x => decide (x.1 < r)).length), (8, .v (.int .i64 k))], [some ⟨true, 90, ((l.take k).filter fun x => decide (x.1 < r)).length, true, encs veC ((l.take k).filter fun x => decide (x.1 < r)), 0, false⟩]⟩) ⟨trivial, ?_⟩ (fun k hk ho => ?_) (fun ho => ?_)
  · rw [List.take_zero, List.filter_nil]
    (refine Weak.renS [1] hfx rfl ?_ ?_ rfl <;> (simp only [go_sem, reduceIte, exists_eq_left', exists_eq_left, Blk.mk.injEq, List.length_nil, encs_nil] <;> (try and_intros) <;> first | rfl | omega))
  · have hx : l[k]? = some l[k] := List.getElem?_eq_getElem hk
    have hat1 : (encs veC l)[k * 2 + 0]? = some (.v (.int .u16 l[k].1)) := encs_get veC_length hx (by decide)
    rw [Nat.add_zero] at hat1
    have hat : ((encs veC l).drop (k * 2)).take 2 = [.v (.int .u16 l[k].1), .v (.int .u32 l[k].2)] := encs_at veC_length hx
    have hle : k * 2 + 2 ≤ l.length * 2 := by omega
    have hne : encs veC l ≠ [] := encs_ne veC_length (by decide) hx
    have htk : l.take (k + 1) = l.take k ++ [l[k]] := by rw [List.take_add_one, hx]; rfl
    have hlt := filt_len (l.take k) fun x => decide (x.1 < r)
    have hlt2 : (l.take k).length ≤ 100000 := by rw [List.length_take]; omega
    rw [htk, filt_snoc]
    clear htk hx
    generalize l[k] = x at *
    generalize (l.take k).filter (fun x => decide (x.1 < r)) = out at *
    have hsn := encs_snoc (f := veC) out x
    have htq : (encs veC out).take (out.length * 2) = encs veC out := encs_take_all veC_length out
    simp only [veC] at hsn
    have FX := And.intro hat1 (And.intro hat hle)
    repeat' (first | refine WK.seq ?_ | refine WK.reg ?_ | refine IL.nil ?_ | refine WK.skip ?_ | refine WK.block ?_ | refine WK.exit_here ?_ | refine WK.e1 ?_ | refine WK.e2 ?_ | (with_reducible refine IL.wr ?_ ?_; focus exact cW) | refine IL.sgF ttok ?_ | (refine WK.cn (fun h => ?_) (fun h => ?_); all_goals first | (simp only [reduceCtorEq] at h; done) | (simp only [hsA, hsD, hsE, ne_eq] at h; first | done | (exfalso; omega; done) | skip) | skip))
    · rw [if_pos (decide_eq_true h)]
      refine ⟨trivial, ?_⟩
      (refine Weak.renS [0] hfx rfl ?_ ?_ rfl <;> (simp only [go_sem, reduceIte, exists_eq_left', exists_eq_left, Blk.mk.injEq, htq, hsn, List.length_append, List.length_cons, List.length_nil] <;> (try and_intros) <;> first | rfl | omega))
    · rw [if_neg (by simpa using h)]
      refine ⟨trivial, ?_⟩
      (refine Weak.renS [0] hfx rfl ?_ ?_ rfl <;> (simp only [go_sem, reduceIte, exists_eq_left', exists_eq_left, Blk.mk.injEq, List.append_nil] <;> (try and_intros) <;> first | rfl | omega))
  · rw [List.take_length]
    have hl1 := filt_len l fun x => decide (x.1 < r)
    have hw : withV l r q = (l.filter (fun x => decide (x.1 < r)) ++ (if 0 < q then [(r, q)] else [])) ++ l.filter (fun x => decide (r < x.1)) := by unfold withV; rw [List.append_assoc]
    rw [hw]
    generalize l.filter (fun x => decide (x.1 < r)) = o1 at *
    have hsn1 := encs_snoc (f := veC) o1 (r, q)
    have htq1 : (encs veC o1).take (o1.length * 2) = encs veC o1 := encs_take_all veC_length o1
    simp only [veC] at hsn1
    have hcase : (0 < q ∧ o1 ++ [(r, q)] = o1 ++ (if 0 < q then [(r, q)] else [])) ∨ (¬ 0 < q ∧ o1 = o1 ++ (if 0 < q then [(r, q)] else [])) := by
      by_cases hq : 0 < q
      · rw [if_pos hq]; exact .inl ⟨hq, rfl⟩
      · rw [if_neg hq]; exact .inr ⟨hq, (List.append_nil _).symm⟩
    generalize o1 ++ (if 0 < q then [(r, q)] else []) = o2 at *
    have hl2 : o2.length ≤ 100001 := by
      rcases hcase with ⟨_, rfl⟩ | ⟨_, rfl⟩
      · rw [List.length_append, List.length_cons, List.length_nil]; omega
      · omega
    rcases hcase with ⟨hq, he⟩ | ⟨hq, he⟩
    all_goals
      have hln := congrArg List.length he
      have hec := congrArg (encs veC) he
      repeat' (first | refine WK.seq ?_ | refine WK.reg ?_ | refine IL.nil ?_ | refine WK.skip ?_ | refine WK.block ?_ | refine WK.exit_here ?_ | refine WK.e1 ?_ | refine WK.e2 ?_ | (with_reducible refine IL.wr ?_ ?_; focus exact cW) | refine IL.sg ttok ?_ | (refine WK.cn (fun h => ?_) (fun h => ?_); all_goals first | (simp only [reduceCtorEq] at h; done) | (simp only [hsA, hsD, hsE, ne_eq] at h; first | done | (exfalso; omega; done) | skip) | skip))
      refine WK.forS l.length (fun k => True) (fun k => ⟨59, [(0, .tr l.length (encs veC l)), (1, .v (.int .u16 r)), (7, .sl 0 0 0 (o2 ++ (l.take k).filter fun x => decide (r < x.1)).length), (9, .v (.int .i64 k))], [some ⟨true, 90, (o2 ++ (l.take k).filter fun x => decide (r < x.1)).length, true, encs veC (o2 ++ (l.take k).filter fun x => decide (r < x.1)), 0, false⟩]⟩) ⟨trivial, ?_⟩ (fun k hk ho => ?_) (fun ho => ?_)
      · rw [List.take_zero, List.filter_nil, List.append_nil, ← he]
        (refine Weak.renS [0] hfx rfl ?_ ?_ rfl <;> (simp only [go_sem, reduceIte, exists_eq_left', exists_eq_left, Blk.mk.injEq, htq1, hsn1, List.length_append, List.length_cons, List.length_nil] <;> (try and_intros) <;> first | rfl | omega))
      · have hx : l[k]? = some l[k] := List.getElem?_eq_getElem hk
        have hat1 : (encs veC l)[k * 2 + 0]? = some (.v (.int .u16 l[k].1)) := encs_get veC_length hx (by decide)
        rw [Nat.add_zero] at hat1
        have hat : ((encs veC l).drop (k * 2)).take 2 = [.v (.int .u16 l[k].1), .v (.int .u32 l[k].2)] := encs_at veC_length hx
        have hle : k * 2 + 2 ≤ l.length * 2 := by omega
        have hne : encs veC l ≠ [] := encs_ne veC_length (by decide) hx
        have htk : l.take (k + 1) = l.take k ++ [l[k]] := by rw [List.take_add_one, hx]; rfl
        have hlt := filt_len (l.take k) fun x => decide (r < x.1)
        have hlt2 : (l.take k).length ≤ 100000 := by rw [List.length_take]; omega
        have hlt3 : (o2 ++ (l.take k).filter fun x => decide (r < x.1)).length ≤ 200001 := by rw [List.length_append]; omega
        rw [htk, filt_snoc, ← List.append_assoc]
        clear htk hx
        generalize l[k] = x at *
        generalize o2 ++ (l.take k).filter (fun x => decide (r < x.1)) = out at *
        have hsn := encs_snoc (f := veC) out x
        have htq : (encs veC out).take (out.length * 2) = encs veC out := encs_take_all veC_length out
        simp only [veC] at hsn
        have FX := And.intro hat1 (And.intro hat hle)
        repeat' (first | refine WK.seq ?_ | refine WK.reg ?_ | refine IL.nil ?_ | refine WK.skip ?_ | refine WK.block ?_ | refine WK.exit_here ?_ | refine WK.e1 ?_ | refine WK.e2 ?_ | (with_reducible refine IL.wr ?_ ?_; focus exact cW) | refine IL.sgF ttok ?_ | (refine WK.cn (fun h => ?_) (fun h => ?_); all_goals first | (simp only [reduceCtorEq] at h; done) | (simp only [hsA, hsD, hsE, ne_eq] at h; first | done | (exfalso; omega; done) | skip) | skip))
        · rw [if_pos (decide_eq_true h)]
          refine ⟨trivial, ?_⟩
          (refine Weak.renS [0] hfx rfl ?_ ?_ rfl <;> (simp only [go_sem, reduceIte, exists_eq_left', exists_eq_left, Blk.mk.injEq, htq, hsn, List.length_append, List.length_cons, List.length_nil] <;> (try and_intros) <;> first | rfl | omega))
        · rw [if_neg (by simpa using h)]
          refine ⟨trivial, ?_⟩
          (refine Weak.renS [0] hfx rfl ?_ ?_ rfl <;> (simp only [go_sem, reduceIte, exists_eq_left', exists_eq_left, Blk.mk.injEq, List.append_nil] <;> (try and_intros) <;> first | rfl | omega))
      · rw [List.take_length]
        repeat' (first | refine WK.seq ?_ | refine WK.reg ?_ | refine IL.nil ?_ | refine WK.skip ?_ | refine WK.block ?_ | refine WK.exit_here ?_ | refine WK.e1 ?_ | refine WK.e2 ?_ | (with_reducible refine IL.wr ?_ ?_; focus exact cW) | refine IL.sg ttok ?_ | (refine WK.cn (fun h => ?_) (fun h => ?_); all_goals first | (simp only [reduceCtorEq] at h; done) | (simp only [hsA, hsD, hsE, ne_eq] at h; first | done | (exfalso; omega; done) | skip) | skip))
        all_goals try ((first | refine WK.ret ⟨.inr rfl, ?_⟩ | refine ⟨.inl rfl, ?_⟩ | refine ⟨.inl trivial, ?_⟩); refine Fin.o ?_ ?_ (h1 := by first | rfl | (simp only [go_sem, show Try.f14.results.toList = [.tmp 6] from rfl, reduceIte] <;> rfl)); rotate_left 1; (focus (first | rfl | skip)); all_goals try with_reducible rfl)
        all_goals skip
end Go.Proofs.Ytclhjcbnpdlgbaa.Vc
/- Envelopes and vectors as the document has them, for several layers. -/
namespace Go.Proofs.Ytclhjcbnpdlgbaa
open Go Go.Lift
set_option maxHeartbeats 4000000
set_option linter.unusedSimpArgs false
set_option linter.unusedVariables false
attribute [local irreducible] WK IL IP IG IW DW

def wfC (o : OpV) : Prop := 0 ≤ o.n ∧ (0 ≤ o.m ∧ o.m ≤ 4294967295) ∧ (0 ≤ o.q ∧ o.q ≤ 4294967295) ∧ ∀ x ∈ o.s, (0 ≤ x.2.1 ∧ x.2.1 ≤ 4294967295) ∧ (-9223372036854775808 ≤ x.2.2 ∧ x.2.2 ≤ 9223372036854775807)
abbrev enL (dx : IV) (r s c u : Int) (ox : IV) : List IV := [dx, .v (.int .u16 r), .v (.int .u32 s), .v (.int .u64 c), .v (.int .i64 u), ox]
abbrev enT (d : List Vc.Ve) (r s c u : Int) (ops : List OpV) : List IV := enL (.tr d.length (encs Vc.veC d)) r s c u (.tr ops.length (encs opC ops))
open Classical in
noncomputable def fit10 (d : List Vc.Ve) (r s c u : Int) (ops : List OpV) : Int := if Vc.rightB d = true ∧ Vc.getV d r = 0 then fit9 s c u ops else 11
theorem fit10_ok {d : List Vc.Ve} {r s c u : Int} {ops : List OpV} (h : fit10 d r s c u ops = 0) : Vc.rightB d = true ∧ Vc.getV d r = 0 ∧ fit9 s c u ops = 0 := by
  unfold fit10 at h
  split at h
  · rename_i h1; exact ⟨h1.1, h1.2, h⟩
  · cases h
def wfD (d : List Vc.Ve) : Prop := ∀ x ∈ d, (0 ≤ x.1 ∧ x.1 ≤ 65535) ∧ (0 ≤ x.2 ∧ x.2 ≤ 4294967295)
theorem rFit10_call (d : List Vc.Ve) (r s c u : Int) (ops : List OpV) (hd : d.length ≤ 100000) (hw : wfD d) (hl : ops.length ≤ 40) (hsz : ∀ o ∈ ops, o.t.length ≤ 1000 ∧ o.s.length ≤ 1024) (hwo : ∀ o ∈ ops, wfC o) :
    SCall Try.prog 34 [.agg (enT d r s c u ops)] (.v (.int .i64 (fit10 d r s c u ops))) [.agg (enT d r s c u ops)] := by
  have hrr := Vc.refRight_call d (by omega) (fun x hx => (hw x hx).1)
  have hf9 := fit9_call r s c u ops ops.length rfl hl (fun o ho => by
    have h1 := hsz o ho
    have h2 := hwo o ho
    unfold wfC at h2
    exact ⟨h1.1, h1.2, h2.1, h2.2.2.1.1, h2.2.1.1, h2.2.1.2⟩)
  unfold fit10
  by_cases h1 : Vc.rightB d = true
  · have hrg := Vc.refGet_call d r (Vc.rightB_inv h1).1 (by omega)
    rw [h1] at hrr
    by_cases h2 : Vc.getV d r = 0
    · rw [if_pos ⟨h1, h2⟩]
      rw [h2] at hrg
      generalize fit9 s c u ops = e at *
      refine SCall.of_body' (TT := TT) (fun _ => false) [false] ttok Try.func34 rfl (Nat.le_of_ble_eq_true rfl) rfl fun fx hfx => WK.top ?_
      simp only [impl, imp, argT, List.append_nil, List.map_nil, List.nil_append, show Try.f34.ntmps = 19 from rfl, Nat.zero_add, Nat.reduceAdd]
      repeat' (first | refine WK.seq ?_ | refine WK.reg ?_ | refine IL.nil ?_ | refine WK.skip ?_ | (with_reducible refine IL.wr ?_ ?_; focus exact cW) | refine IL.sg ttok ?_ | refine IL.nn ?_ | refine IL.cS ttok ent21 [.bor, .bor] true ?_ (hS := by exact hrg) | refine IL.cS ttok ent32 [.bor] true ?_ (hS := by exact hrr) | refine IL.cS ttok ent55 [.bor] true ?_ (hS := by exact hf9) | ((first | ((first | refine IL.ag (fun h => ?_) (fun h => ?_) | refine IL.ap (fun h => ?_) (fun h => ?_)); (fail_if_success (focus (simp only [reduceCtorEq] at h)))) | refine WK.cn (fun h => ?_) (fun h => ?_)); all_goals first | (simp only [reduceCtorEq] at h; done) | (simp only [hsA, hsD, hsE, ne_eq] at h; first | done | (exfalso; omega; done) | skip) | skip))
      all_goals try ((first | refine WK.ret ⟨.inr rfl, ?_⟩ | refine ⟨.inl rfl, ?_⟩ | refine ⟨.inl trivial, ?_⟩); refine Fin.o ?_ ?_ (h1 := by first | rfl | (simp only [go_sem, show Try.f34.results.toList = [.tmp 2] from rfl, reduceIte] <;> rfl)); rotate_left 1; (focus (first | rfl | skip)); all_goals try with_reducible rfl)
      all_goals skip
    · rw [if_neg (fun h => h2 h.2)]
      have hb : (Vc.getV d r != 0) = true := by simpa using h2
      generalize Vc.getV d r = g at *
      refine SCall.of_body' (TT := TT) (fun _ => false) [false] ttok Try.func34 rfl (Nat.le_of_ble_eq_true rfl) rfl fun fx hfx => WK.top ?_
      simp only [impl, imp, argT, List.append_nil, List.map_nil, List.nil_append, show Try.f34.ntmps = 19 from rfl, Nat.zero_add, Nat.reduceAdd]
      have FX := hb
      repeat' (first | refine WK.seq ?_ | refine WK.reg ?_ | refine IL.nil ?_ | refine WK.skip ?_ | (with_reducible refine IL.wr ?_ ?_; focus exact cW) | refine IL.sgF ttok ?_ | refine IL.nn ?_ | refine IL.cSF ttok ent21 [.bor, .bor] true ?_ (hS := by exact hrg) | refine IL.cSF ttok ent32 [.bor] true ?_ (hS := by exact hrr) | refine IL.cSF ttok ent55 [.bor] true ?_ (hS := by exact hf9) | ((first | ((first | refine IL.ag (fun h => ?_) (fun h => ?_) | refine IL.ap (fun h => ?_) (fun h => ?_)); (fail_if_success (focus (simp only [reduceCtorEq] at h)))) | refine WK.cn (fun h => ?_) (fun h => ?_)); all_goals first | (simp only [reduceCtorEq] at h; done) | (simp only [hsA, hsD, hsE, ne_eq] at h; first | done | (exfalso; omega; done) | skip) | skip))
      all_goals try ((first | refine WK.ret ⟨.inr rfl, ?_⟩ | refine ⟨.inl rfl, ?_⟩ | refine ⟨.inl trivial, ?_⟩); refine Fin.o ?_ ?_ (h1 := by first | rfl | (simp only [go_sem, show Try.f34.results.toList = [.tmp 2] from rfl, reduceIte] <;> rfl)); rotate_left 1; (focus (first | rfl | skip)); all_goals try with_reducible rfl)
      all_goals skip
  · rw [if_neg (fun h => h1 h.1)]
    rw [Bool.eq_false_iff.2 h1] at hrr
    refine SCall.of_body' (TT := TT) (fun _ => false) [false] ttok Try.func34 rfl (Nat.le_of_ble_eq_true rfl) rfl fun fx hfx => WK.top ?_
    simp only [impl, imp, argT, List.append_nil, List.map_nil, List.nil_append, show Try.f34.ntmps = 19 from rfl, Nat.zero_add, Nat.reduceAdd]
    repeat' (first | refine WK.seq ?_ | refine WK.reg ?_ | refine IL.nil ?_ | refine WK.skip ?_ | (with_reducible refine IL.wr ?_ ?_; focus exact cW) | refine IL.sg ttok ?_ | refine IL.nn ?_ | refine IL.cS ttok ent21 [.bor, .bor] true ?_ (hS := by exact hrg) | refine IL.cS ttok ent32 [.bor] true ?_ (hS := by exact hrr) | refine IL.cS ttok ent55 [.bor] true ?_ (hS := by exact hf9) | ((first | ((first | refine IL.ag (fun h => ?_) (fun h => ?_) | refine IL.ap (fun h => ?_) (fun h => ?_)); (fail_if_success (focus (simp only [reduceCtorEq] at h)))) | refine WK.cn (fun h => ?_) (fun h => ?_)); all_goals first | (simp only [reduceCtorEq] at h; done) | (simp only [hsA, hsD, hsE, ne_eq] at h; first | done | (exfalso; omega; done) | skip) | skip))
    all_goals try ((first | refine WK.ret ⟨.inr rfl, ?_⟩ | refine ⟨.inl rfl, ?_⟩ | refine ⟨.inl trivial, ?_⟩); refine Fin.o ?_ ?_ (h1 := by first | rfl | (simp only [go_sem, show Try.f34.results.toList = [.tmp 2] from rfl, reduceIte] <;> rfl)); rotate_left 1; (focus (first | rfl | skip)); all_goals try with_reducible rfl)
    all_goals skip
theorem vecS_call (l : List Vc.Ve) (hl : l.length * 8 ≤ 140737488355328) : SCall Try.prog 10 [.tr l.length (encs Vc.veC l)] (.own 90 l.length true (encs Vc.veC l)) [.tr l.length (encs Vc.veC l)] := by
  refine SCall.of_body' (TT := TT) (fun _ => false) [false] ttok Try.func10 rfl (Nat.le_of_ble_eq_true rfl) rfl fun fx hfx => WK.top ?_
  simp only [impl, imp, argT, List.append_nil, List.map_nil, List.nil_append, show Try.f10.ntmps = 18 from rfl, Nat.zero_add, Nat.reduceAdd]
  repeat' (first | refine WK.seq ?_ | refine WK.reg ?_ | refine IL.nil ?_ | refine WK.skip ?_ | refine WK.block ?_ | refine WK.exit_here ?_ | refine WK.e1 ?_ | refine WK.e2 ?_ | (with_reducible refine IL.wr ?_ ?_; focus exact cW) | refine IL.sg ttok ?_ | (refine WK.cn (fun h => ?_) (fun h => ?_); all_goals first | (simp only [reduceCtorEq] at h; done) | (simp only [hsA, hsD, hsE, ne_eq] at h; first | done | (exfalso; omega; done) | skip) | skip))
  refine WK.forS l.length (fun k => True) (fun k => ⟨18, [(3, .sl 0 0 0 (l.take k).length), (6, .tr l.length (encs Vc.veC l)), (7, .v (.int .i64 l.length)), (8, .v (.int .i64 k))], [some ⟨true, 90, (l.take k).length, true, encs Vc.veC (l.take k), 0, false⟩]⟩) ⟨trivial, ?_⟩ (fun k hk ho => ?_) (fun ho => ?_)
  · (refine Weak.renS [1] hfx rfl ?_ ?_ rfl <;> (simp only [go_sem, reduceIte, exists_eq_left', exists_eq_left, Blk.mk.injEq, List.take_zero, List.length_nil, encs_nil] <;> (try and_intros) <;> first | rfl | omega))
  · have hx : l[k]? = some l[k] := List.getElem?_eq_getElem hk
    have hle : k * 2 + 2 ≤ l.length * 2 := by omega
    have hat : ((encs Vc.veC l).drop (k * 2)).take 2 = [.v (.int .u16 l[k].1), .v (.int .u32 l[k].2)] := encs_at Vc.veC_length hx
    have hne : encs Vc.veC l ≠ [] := encs_ne Vc.veC_length (by decide) hx
    have htl : (l.take k).length = k := by rw [List.length_take]; omega
    have htk : l.take (k + 1) = l.take k ++ [l[k]] := by rw [List.take_add_one, hx]; rfl
    have hln : (l.take (k + 1)).length = (l.take k).length + 1 := by rw [List.length_take, List.length_take]; omega
    have hcs : encs Vc.veC (l.take k) ++ [.v (.int .u16 l[k].1), .v (.int .u32 l[k].2)] = encs Vc.veC (l.take (k + 1)) := by rw [htk, ← encs_snoc]; rfl
    have FX := And.intro hat hle
    repeat' (first | refine WK.seq ?_ | refine WK.reg ?_ | refine IL.nil ?_ | refine WK.skip ?_ | refine WK.block ?_ | refine WK.exit_here ?_ | refine WK.e1 ?_ | refine WK.e2 ?_ | (with_reducible refine IL.wr ?_ ?_; focus exact cW) | refine IL.sgF ttok ?_ | (refine WK.cn (fun h => ?_) (fun h => ?_); all_goals first | (simp only [reduceCtorEq] at h; done) | (simp only [hsA, hsD, hsE, ne_eq] at h; first | done | (exfalso; omega; done) | skip) | skip))
    all_goals first | (refine Weak.renS [0] hfx rfl ?_ ?_ rfl <;> (simp only [go_sem, reduceIte, exists_eq_left', exists_eq_left, Blk.mk.injEq, hln, hcs] <;> (try and_intros) <;> first | rfl | omega)) | (refine ⟨?_, ?_⟩; rotate_left 1; (focus (refine Weak.renS [0] hfx rfl ?_ ?_ rfl <;> (simp only [go_sem, reduceIte, exists_eq_left', exists_eq_left, Blk.mk.injEq, hln, hcs] <;> (try and_intros) <;> first | rfl | omega))); first | trivial | assumption | omega | grind) | grind
  · repeat' (first | refine WK.seq ?_ | refine WK.reg ?_ | refine IL.nil ?_ | refine WK.skip ?_ | refine WK.block ?_ | refine WK.exit_here ?_ | refine WK.e1 ?_ | refine WK.e2 ?_ | (with_reducible refine IL.wr ?_ ?_; focus exact cW) | refine IL.sg ttok ?_ | (refine WK.cn (fun h => ?_) (fun h => ?_); all_goals first | (simp only [reduceCtorEq] at h; done) | (simp only [hsA, hsD, hsE, ne_eq] at h; first | done | (exfalso; omega; done) | skip) | skip))
    all_goals try ((first | refine WK.ret ⟨.inr rfl, ?_⟩ | refine ⟨.inl rfl, ?_⟩ | refine ⟨.inl trivial, ?_⟩); refine Fin.o ?_ ?_ (h1 := by first | rfl | (simp only [go_sem, show Try.f10.results.toList = [.tmp 2] from rfl, reduceIte] <;> rfl)); rotate_left 1; (focus (first | rfl | skip)); all_goals try with_reducible rfl)
theorem envS_call (d : List Vc.Ve) (r s c u : Int) (ops : List OpV) (hd : d.length * 8 ≤ 140737488355328) (hl : ops.length * 72 ≤ 140737488355328) (h16 : ∀ o ∈ ops, o.s.length * 16 ≤ 140737488355328) :
    SCall Try.prog 12 [.agg (enT d r s c u ops)] (.ago (enL (.own 90 d.length true (encs Vc.veC d)) r s c u (.own 120 ops.length false (encs opC ops)))) [.agg (enT d r s c u ops)] := by
  have hde := vecS_call d hd
  have hmt := madeTxn_call r s c u ops ops.length rfl hl h16
  refine SCall.of_body' (TT := TT) (fun _ => false) [false] ttok Try.func12 rfl (Nat.le_of_ble_eq_true rfl) rfl fun fx hfx => WK.top ?_
  simp only [impl, imp, argT, List.append_nil, List.map_nil, List.nil_append, show Try.f12.ntmps = 10 from rfl, Nat.zero_add, Nat.reduceAdd]
  repeat' (first | refine WK.seq ?_ | refine WK.reg ?_ | refine IL.nil ?_ | refine WK.drawnS (id := 1) mixed [1] [2, 5, 7] [0, 0, 0, 0, 0, 1, 2, 2] [0, 0, 0, 1, 1, 1, 2, 2] (by decide +kernel) ?_ | refine DW.nil ?_ | (with_reducible refine IL.wr ?_ ?_; focus exact cW) | (with_reducible refine DW.wr ?_ ?_; focus exact cW) | refine IL.sg ttok ?_ | refine DW.re ttok ?_ | refine DW.rm ttok ?_ | refine DW.bk ttok ?_ | refine DW.cS ttok ent10 [.bor] true ?_ (hS := by exact hde) | refine DW.cS ttok ent39 [.bor] false ?_ (hS := by exact hmt))
  all_goals try ((first | refine WK.ret ⟨.inr rfl, ?_⟩ | refine ⟨.inl rfl, ?_⟩ | refine ⟨.inl trivial, ?_⟩); refine Fin.o ?_ ?_ (h1 := by first | rfl | (simp only [go_sem, show Try.f12.results.toList = [.cell 2 49] from rfl, reduceIte] <;> rfl)); rotate_left 1; (focus (first | rfl | skip)); all_goals try with_reducible rfl)
  all_goals skip
theorem envS_frz (d : List Vc.Ve) (r s c u : Int) (ops : List OpV) (hd : d.length * 8 ≤ 140737488355328) (hl : ops.length * 72 ≤ 140737488355328) (h16 : ∀ o ∈ ops, o.s.length * 16 ≤ 140737488355328) :
    SCall Try.prog 12 [.agg (enT d r s c u ops)] (.agg (enT d r s c u ops)) [.agg (enT d r s c u ops)] := by
  have h := SCall.frz (envS_call d r s c u ops hd hl h16) rfl
  exact h
open Classical in
def smallE (d : List Vc.Ve) (r s c u : Int) (ops : List OpV) : Prop := (d.length ≤ 100 ∧ smallT ops) ∧ fit10 d r s c u ops = 0
open Classical in
theorem smallS_call (d : List Vc.Ve) (r s c u : Int) (ops : List OpV) (hd : d.length * 8 ≤ 140737488355328) (hw : wfD d) (hl : ops.length * 72 ≤ 140737488355328) (h16 : ∀ o ∈ ops, o.s.length * 16 ≤ 140737488355328) (ht : ∀ o ∈ ops, o.t.length ≤ 9223372036854775807 ∧ o.s.length ≤ 9223372036854775807) (hwo : ∀ o ∈ ops, wfC o) :
    SCall Try.prog 8 [.agg (enT d r s c u ops)] (.v (.bool (decide (smallE d r s c u ops)))) [.agg (enT d r s c u ops)] := by
  have hsm := small_call r s c u ops ops.length rfl (by omega) ht
  have hes := envS_frz d r s c u ops hd hl h16
  by_cases hS : smallT ops
  rotate_left
  · rw [decide_eq_false hS] at hsm
    rw [decide_eq_false (fun h : smallE d r s c u ops => hS h.1.2)]
    generalize smallT ops = S at *
    refine SCall.of_body' (TT := TT) (fun _ => false) [false] ttok Try.func8 rfl (Nat.le_of_ble_eq_true rfl) rfl fun fx hfx => WK.top ?_
    simp only [impl, imp, argT, List.append_nil, List.map_nil, List.nil_append, show Try.f8.ntmps = 18 from rfl, Nat.zero_add, Nat.reduceAdd]
    repeat' (first | refine WK.seq ?_ | refine WK.reg ?_ | refine IL.nil ?_ | (with_reducible refine IL.wr ?_ ?_; focus exact cW) | refine IL.sg ttok ?_ | refine IL.nn ?_ | refine IL.cS ttok ent12 [.bor] false ?_ (hS := by exact hes) | refine IL.cS ttok ent33 [.bor] true ?_ (hS := by exact hsm) | refine IL.cS ttok ent34 [.bor] true ?_ (hS := by exact hfi) | (((first | refine IL.ag (fun h => ?_) (fun h => ?_) | refine IL.ap (fun h => ?_) (fun h => ?_)); (fail_if_success (focus (simp only [reduceCtorEq] at h)))); all_goals first | (simp only [reduceCtorEq] at h; done) | (simp only [hsA, hsD, hsE, ne_eq] at h; first | done | (exfalso; omega; done) | skip) | skip))
    all_goals try ((first | refine WK.ret ⟨.inr rfl, ?_⟩ | refine ⟨.inl rfl, ?_⟩ | refine ⟨.inl trivial, ?_⟩); refine Fin.o ?_ ?_ (h1 := by first | rfl | (simp only [go_sem, show Try.f8.results.toList = [.tmp 2] from rfl, reduceIte] <;> rfl)); rotate_left 1; (focus (first | rfl | skip)); all_goals try with_reducible rfl)
    all_goals skip
  rw [decide_eq_true hS] at hsm
  by_cases h100 : d.length ≤ 100
  rotate_left
  · rw [decide_eq_false (fun h : smallE d r s c u ops => h100 h.1.1)]
    refine SCall.of_body' (TT := TT) (fun _ => false) [false] ttok Try.func8 rfl (Nat.le_of_ble_eq_true rfl) rfl fun fx hfx => WK.top ?_
    simp only [impl, imp, argT, List.append_nil, List.map_nil, List.nil_append, show Try.f8.ntmps = 18 from rfl, Nat.zero_add, Nat.reduceAdd]
    repeat' (first | refine WK.seq ?_ | refine WK.reg ?_ | refine IL.nil ?_ | (with_reducible refine IL.wr ?_ ?_; focus exact cW) | refine IL.sg ttok ?_ | refine IL.nn ?_ | refine IL.cS ttok ent12 [.bor] false ?_ (hS := by exact hes) | refine IL.cS ttok ent33 [.bor] true ?_ (hS := by exact hsm) | refine IL.cS ttok ent34 [.bor] true ?_ (hS := by exact hfi) | (((first | refine IL.ag (fun h => ?_) (fun h => ?_) | refine IL.ap (fun h => ?_) (fun h => ?_)); (fail_if_success (focus (simp only [reduceCtorEq] at h)))); all_goals first | (simp only [reduceCtorEq] at h; done) | (simp only [hsA, hsD, hsE, ne_eq] at h; first | done | (exfalso; omega; done) | skip) | skip))
    all_goals try ((first | refine WK.ret ⟨.inr rfl, ?_⟩ | refine ⟨.inl rfl, ?_⟩ | refine ⟨.inl trivial, ?_⟩); refine Fin.o ?_ ?_ (h1 := by first | rfl | (simp only [go_sem, show Try.f8.results.toList = [.tmp 2] from rfl, reduceIte] <;> rfl)); rotate_left 1; (focus (first | rfl | skip)); all_goals try with_reducible rfl)
    all_goals skip
  have hfi := rFit10_call d r s c u ops (by omega) hw hS.1 (fun o ho => by have := hS.2 o ho; unfold smallO at this; omega) hwo
  have hB : decide (smallE d r s c u ops) = (fit10 d r s c u ops == 0) := by
    by_cases h0 : fit10 d r s c u ops = 0
    · rw [decide_eq_true (show smallE d r s c u ops from ⟨⟨h100, hS⟩, h0⟩), h0]; rfl
    · rw [decide_eq_false (fun h : smallE d r s c u ops => h0 h.2)]
      exact (beq_eq_false_iff_ne.2 h0).symm
  rw [hB]
  generalize fit10 d r s c u ops = F at *
  refine SCall.of_body' (TT := TT) (fun _ => false) [false] ttok Try.func8 rfl (Nat.le_of_ble_eq_true rfl) rfl fun fx hfx => WK.top ?_
  simp only [impl, imp, argT, List.append_nil, List.map_nil, List.nil_append, show Try.f8.ntmps = 18 from rfl, Nat.zero_add, Nat.reduceAdd]
  repeat' (first | refine WK.seq ?_ | refine WK.reg ?_ | refine IL.nil ?_ | (with_reducible refine IL.wr ?_ ?_; focus exact cW) | refine IL.sg ttok ?_ | refine IL.nn ?_ | refine IL.cS ttok ent12 [.bor] false ?_ (hS := by exact hes) | refine IL.cS ttok ent33 [.bor] true ?_ (hS := by exact hsm) | refine IL.cS ttok ent34 [.bor] true ?_ (hS := by exact hfi) | (((first | refine IL.ag (fun h => ?_) (fun h => ?_) | refine IL.ap (fun h => ?_) (fun h => ?_)); (fail_if_success (focus (simp only [reduceCtorEq] at h)))); all_goals first | (simp only [reduceCtorEq] at h; done) | (simp only [hsA, hsD, hsE, ne_eq] at h; first | done | (exfalso; omega; done) | skip) | skip))
  all_goals try ((first | refine WK.ret ⟨.inr rfl, ?_⟩ | refine ⟨.inl rfl, ?_⟩ | refine ⟨.inl trivial, ?_⟩); refine Fin.o ?_ ?_ (h1 := by first | rfl | (simp only [go_sem, show Try.f8.results.toList = [.tmp 2] from rfl, reduceIte] <;> rfl)); rotate_left 1; (focus (first | rfl | skip)); all_goals try with_reducible rfl)
  all_goals skip
theorem rightS_call (v : List Vc.Ve) (hv : ∀ x ∈ v, 0 ≤ x.1 ∧ x.1 ≤ 65535) (h8 : v.length * 8 ≤ 140737488355328) : SCall Try.prog 7 [.tr v.length (encs Vc.veC v)] (.v (.bool (decide (v.length ≤ 100) && Vc.rightB v))) [.tr v.length (encs Vc.veC v)] := by
  have hvs := SCall.frz (vecS_call v h8) rfl
  simp only [frzR] at hvs
  by_cases h100 : v.length ≤ 100
  · have hrr := Vc.refRight_call v (by omega) hv
    rw [decide_eq_true h100, Bool.true_and]
    generalize Vc.rightB v = B at *
    refine SCall.of_body' (TT := TT) (fun _ => false) [false] ttok Try.func7 rfl (Nat.le_of_ble_eq_true rfl) rfl fun fx hfx => WK.top ?_
    simp only [impl, imp, argT, List.append_nil, List.map_nil, List.nil_append, show Try.f7.ntmps = 11 from rfl, Nat.zero_add, Nat.reduceAdd]
    repeat' (first | refine WK.seq ?_ | refine WK.reg ?_ | refine IL.nil ?_ | (with_reducible refine IL.wr ?_ ?_; focus exact cW) | refine IL.sg ttok ?_ | refine IL.nn ?_ | refine IL.cS ttok ent10 [.bor] false ?_ (hS := by exact hvs) | refine IL.cS ttok ent32 [.bor] true ?_ (hS := by exact hrr) | (((first | refine IL.ag (fun h => ?_) (fun h => ?_) | refine IL.ap (fun h => ?_) (fun h => ?_)); (fail_if_success (focus (simp only [reduceCtorEq] at h)))); all_goals first | (simp only [reduceCtorEq] at h; done) | (simp only [hsA, hsD, hsE, ne_eq] at h; first | done | (exfalso; omega; done) | skip) | skip))
    all_goals try ((first | refine WK.ret ⟨.inr rfl, ?_⟩ | refine ⟨.inl rfl, ?_⟩ | refine ⟨.inl trivial, ?_⟩); refine Fin.o ?_ ?_ (h1 := by first | rfl | (simp only [go_sem, show Try.f7.results.toList = [.tmp 2] from rfl, reduceIte] <;> rfl)); rotate_left 1; (focus (first | rfl | skip)); all_goals try with_reducible rfl)
    all_goals skip
  · rw [decide_eq_false h100, Bool.false_and]
    refine SCall.of_body' (TT := TT) (fun _ => false) [false] ttok Try.func7 rfl (Nat.le_of_ble_eq_true rfl) rfl fun fx hfx => WK.top ?_
    simp only [impl, imp, argT, List.append_nil, List.map_nil, List.nil_append, show Try.f7.ntmps = 11 from rfl, Nat.zero_add, Nat.reduceAdd]
    repeat' (first | refine WK.seq ?_ | refine WK.reg ?_ | refine IL.nil ?_ | (with_reducible refine IL.wr ?_ ?_; focus exact cW) | refine IL.sg ttok ?_ | refine IL.nn ?_ | refine IL.cS ttok ent10 [.bor] false ?_ (hS := by exact hvs) | refine IL.cS ttok ent32 [.bor] true ?_ (hS := by exact hrr) | (((first | refine IL.ag (fun h => ?_) (fun h => ?_) | refine IL.ap (fun h => ?_) (fun h => ?_)); (fail_if_success (focus (simp only [reduceCtorEq] at h)))); all_goals first | (simp only [reduceCtorEq] at h; done) | (simp only [hsA, hsD, hsE, ne_eq] at h; first | done | (exfalso; omega; done) | skip) | skip))
    all_goals try ((first | refine WK.ret ⟨.inr rfl, ?_⟩ | refine ⟨.inl rfl, ?_⟩ | refine ⟨.inl trivial, ?_⟩); refine Fin.o ?_ ?_ (h1 := by first | rfl | (simp only [go_sem, show Try.f7.results.toList = [.tmp 2] from rfl, reduceIte] <;> rfl)); rotate_left 1; (focus (first | rfl | skip)); all_goals try with_reducible rfl)
    all_goals skip
theorem sameV_call (v w : List Vc.Ve) (hv : v.length ≤ 100000) : SCall Try.prog 19 [.tr v.length (encs Vc.veC v), .tr w.length (encs Vc.veC w)] (.v (.bool (decide (v = w)))) [.tr v.length (encs Vc.veC v), .tr w.length (encs Vc.veC w)] := by
  by_cases hl : v.length = w.length
  rotate_left
  · rw [decide_eq_false (fun h => hl (by rw [h]))]
    have hl2 : ((v.length : Int) != (w.length : Int)) = true := by simpa using fun h : (v.length : Int) = w.length => hl (by omega)
    refine SCall.of_body' (TT := TT) (fun _ => false) [false, false] ttok Try.func19 rfl (Nat.le_of_ble_eq_true rfl) rfl fun fx hfx => WK.top ?_
    simp only [impl, imp, argT, List.append_nil, List.map_nil, List.nil_append, show Try.f19.ntmps = 26 from rfl, Nat.zero_add, Nat.reduceAdd]
    repeat' (first | refine WK.seq ?_ | refine WK.reg ?_ | refine IL.nil ?_ | refine WK.skip ?_ | refine WK.block ?_ | refine WK.exit_here ?_ | refine WK.e1 ?_ | refine WK.e2 ?_ | refine WK.drawnS (id := 6) mixed [] [] [] [] (by decide +kernel) ?_ | refine DW.nil ?_ | (with_reducible refine IL.wr ?_ ?_; focus exact cW) | (with_reducible refine DW.wr ?_ ?_; focus exact cW) | refine IL.sg ttok ?_ | refine DW.re ttok ?_ | refine DW.rm ttok ?_ | (refine WK.cn (fun h => ?_) (fun h => ?_); all_goals first | (simp only [reduceCtorEq] at h; done) | (simp only [hsA, hsD, hsE, ne_eq] at h; first | done | (exfalso; omega; done) | skip) | skip))
    all_goals try ((first | refine WK.ret ⟨.inr rfl, ?_⟩ | refine ⟨.inl rfl, ?_⟩ | refine ⟨.inl trivial, ?_⟩); refine Fin.o ?_ ?_ (h1 := by first | rfl | (simp only [go_sem, show Try.f19.results.toList = [.tmp 4] from rfl, reduceIte] <;> rfl)); rotate_left 1; (focus (first | rfl | skip)); all_goals try with_reducible rfl)
    all_goals skip
  refine SCall.of_body' (TT := TT) (fun _ => false) [false, false] ttok Try.func19 rfl (Nat.le_of_ble_eq_true rfl) rfl fun fx hfx => WK.top ?_
  simp only [impl, imp, argT, List.append_nil, List.map_nil, List.nil_append, show Try.f19.ntmps = 26 from rfl, Nat.zero_add, Nat.reduceAdd]
  repeat' (first | refine WK.seq ?_ | refine WK.reg ?_ | refine IL.nil ?_ | refine WK.skip ?_ | refine WK.block ?_ | refine WK.exit_here ?_ | refine WK.e1 ?_ | refine WK.e2 ?_ | refine WK.drawnS (id := 6) mixed [] [] [] [] (by decide +kernel) ?_ | refine DW.nil ?_ | (with_reducible refine IL.wr ?_ ?_; focus exact cW) | (with_reducible refine DW.wr ?_ ?_; focus exact cW) | refine IL.sg ttok ?_ | refine DW.re ttok ?_ | refine DW.rm ttok ?_ | (refine WK.cn (fun h => ?_) (fun h => ?_); all_goals first | (simp only [reduceCtorEq] at h; done) | (simp only [hsA, hsD, hsE, ne_eq] at h; first | done | (exfalso; omega; done) | skip) | skip))
  refine WK.forS v.length (fun k => ∀ j, j < k → v[j]? = w[j]?) (fun k => ⟨26, [(0, .tr v.length (encs Vc.veC v)), (1, .tr w.length (encs Vc.veC w)), (12, .v (.int .i64 v.length)), (13, .v (.int .i64 k))], []⟩) ⟨by omega, ?_⟩ (fun k hk ho => ?_) (fun ho => ?_)
  · (refine Weak.renS [] hfx rfl ?_ ?_ rfl <;> (simp only [go_sem, reduceIte, exists_eq_left', exists_eq_left, Blk.mk.injEq] <;> (try and_intros) <;> first | rfl | omega))
  · have hx : v[k]? = some v[k] := List.getElem?_eq_getElem hk
    have hy : w[k]? = some w[k] := List.getElem?_eq_getElem (by omega)
    have hle : k * 2 + 2 ≤ v.length * 2 := by omega
    have hlw : k * 2 + 2 ≤ w.length * 2 := by omega
    have hat : ((encs Vc.veC v).drop (k * 2)).take 2 = [.v (.int .u16 v[k].1), .v (.int .u32 v[k].2)] := encs_at Vc.veC_length hx
    have haw : ((encs Vc.veC w).drop (k * 2)).take 2 = [.v (.int .u16 w[k].1), .v (.int .u32 w[k].2)] := encs_at Vc.veC_length hy
    have hne : encs Vc.veC v ≠ [] := encs_ne Vc.veC_length (by decide) hx
    have hnw : encs Vc.veC w ≠ [] := encs_ne Vc.veC_length (by decide) hy
    by_cases he : v[k] = w[k]
    · have hstep : ∀ j, j < k + 1 → v[j]? = w[j]? := fun j hj => by
        rcases Nat.lt_or_eq_of_le (Nat.le_of_lt_succ hj) with h | rfl
        · exact ho j h
        · exact hx.trans ((congrArg some he).trans hy.symm)
      rw [he] at hat
      clear hx hy he
      generalize w[k] = y at *
      have FX := And.intro hat (And.intro haw (And.intro hle hlw))
      repeat' (first | refine WK.seq ?_ | refine WK.reg ?_ | refine IL.nil ?_ | refine WK.skip ?_ | refine WK.block ?_ | refine WK.exit_here ?_ | refine WK.e1 ?_ | refine WK.e2 ?_ | refine WK.drawnS (id := 6) mixed [] [] [] [] (by decide +kernel) ?_ | refine DW.nil ?_ | (with_reducible refine IL.wr ?_ ?_; focus exact cW) | (with_reducible refine DW.wr ?_ ?_; focus exact cW) | refine IL.sgF ttok ?_ | refine DW.reF ttok ?_ | refine DW.rmF ttok ?_ | (refine WK.cn (fun h => ?_) (fun h => ?_); all_goals first | (simp only [reduceCtorEq] at h; done) | (simp only [hsA, hsD, hsE, ne_eq] at h; first | done | (exfalso; omega; done) | skip) | skip))
      all_goals refine ⟨hstep, ?_⟩
      (refine Weak.renS [] hfx rfl ?_ ?_ rfl <;> (simp only [go_sem, reduceIte, exists_eq_left', exists_eq_left, Blk.mk.injEq] <;> (try and_intros) <;> first | rfl | omega))
    · rw [decide_eq_false (fun h : v = w => he (Option.some.inj ((hx.symm.trans (congrArg (fun l => l[k]?) h)).trans hy)))]
      have hd : ¬ (v[k].1 = w[k].1 ∧ v[k].2 = w[k].2) := fun h => he (Prod.ext h.1 h.2)
      clear hx hy he
      generalize v[k] = x at *
      generalize w[k] = y at *
      have FX := And.intro hat (And.intro haw (And.intro hle hlw))
      repeat' (first | refine WK.seq ?_ | refine WK.reg ?_ | refine IL.nil ?_ | refine WK.skip ?_ | refine WK.block ?_ | refine WK.exit_here ?_ | refine WK.e1 ?_ | refine WK.e2 ?_ | refine WK.drawnS (id := 6) mixed [] [] [] [] (by decide +kernel) ?_ | refine DW.nil ?_ | (with_reducible refine IL.wr ?_ ?_; focus exact cW) | (with_reducible refine DW.wr ?_ ?_; focus exact cW) | refine IL.sgF ttok ?_ | refine DW.reF ttok ?_ | refine DW.rmF ttok ?_ | (refine WK.cn (fun h => ?_) (fun h => ?_); all_goals first | (simp only [reduceCtorEq] at h; done) | (simp only [hsA, hsD, hsE, ne_eq] at h; first | done | (exfalso; omega; done) | skip) | skip))
      all_goals try ((first | refine WK.ret ⟨.inr rfl, ?_⟩ | refine ⟨.inl rfl, ?_⟩ | refine ⟨.inl trivial, ?_⟩); refine Fin.o ?_ ?_ (h1 := by first | rfl | (simp only [go_sem, show Try.f19.results.toList = [.tmp 4] from rfl, reduceIte] <;> rfl)); rotate_left 1; (focus (first | rfl | skip)); all_goals try with_reducible rfl)
  · rw [decide_eq_true (show v = w from List.ext_getElem? fun j => by
      by_cases hj : j < v.length
      · exact ho j hj
      · rw [List.getElem?_eq_none (by omega), List.getElem?_eq_none (by omega)])]
    repeat' (first | refine WK.seq ?_ | refine WK.reg ?_ | refine IL.nil ?_ | refine WK.skip ?_ | refine WK.block ?_ | refine WK.exit_here ?_ | refine WK.e1 ?_ | refine WK.e2 ?_ | refine WK.drawnS (id := 6) mixed [] [] [] [] (by decide +kernel) ?_ | refine DW.nil ?_ | (with_reducible refine IL.wr ?_ ?_; focus exact cW) | (with_reducible refine DW.wr ?_ ?_; focus exact cW) | refine IL.sg ttok ?_ | refine DW.re ttok ?_ | refine DW.rm ttok ?_ | (refine WK.cn (fun h => ?_) (fun h => ?_); all_goals first | (simp only [reduceCtorEq] at h; done) | (simp only [hsA, hsD, hsE, ne_eq] at h; first | done | (exfalso; omega; done) | skip) | skip))
    all_goals try ((first | refine WK.ret ⟨.inr rfl, ?_⟩ | refine ⟨.inl rfl, ?_⟩ | refine ⟨.inl trivial, ?_⟩); refine Fin.o ?_ ?_ (h1 := by first | rfl | (simp only [go_sem, show Try.f19.results.toList = [.tmp 4] from rfl, reduceIte] <;> rfl)); rotate_left 1; (focus (first | rfl | skip)); all_goals try with_reducible rfl)
end Go.Proofs.Ytclhjcbnpdlgbaa
/- package hold: names, in order; where one stands. -/
namespace Go.Proofs.Ytclhjcbnpdlgbaa
open Go Go.Lift
set_option maxHeartbeats 4000000
set_option linter.unusedSimpArgs false
set_option linter.unusedVariables false
attribute [local irreducible] WK IL IP IG IW DW

structure EnV where
  d : List Vc.Ve
  r : Int
  s : Int
  c : Int
  u : Int
  ops : List OpV
def envC (e : EnV) : List IV := enT e.d e.r e.s e.c e.u e.ops
instance : CellsT envC 6 := ⟨fun _ => rfl, fun _ => rfl⟩
theorem envC_length (e : EnV) : (envC e).length = 6 := rfl
def kN (r s : Int) : Int := r * 4294967296 + s
def kE (e : EnV) : Int := kN e.r e.s
def nb (e : EnV) : Prop := (0 ≤ e.r ∧ e.r ≤ 65535) ∧ (0 ≤ e.s ∧ e.s ≤ 4294967295)
def SrtE (l : List EnV) : Prop := l.Pairwise fun a b => kE a < kE b
def posE (l : List EnV) (k : Int) : Nat := l.countP fun x => decide (kE x < k)
theorem posE_le (l : List EnV) (k : Int) : posE l k ≤ l.length := List.countP_le_length
theorem posE_iff : ∀ {l : List EnV} {r : Int}, SrtE l → ∀ k (x : EnV), l[k]? = some x → (kE x < r ↔ k < posE l r)
  | [], r, _, k, x, h => by simp at h
  | a :: l, r, hs, k, x, h => by
    obtain ⟨h1, h2⟩ := List.pairwise_cons.1 hs
    have ih := fun k x => posE_iff (r := r) h2 k x
    unfold posE at *
    rw [List.countP_cons]
    by_cases ha : kE a < r
    · rw [if_pos (by simpa using ha)]
      cases k with
      | zero => simp at h; subst h; exact ⟨fun _ => by omega, fun _ => ha⟩
      | succ k =>
        have := ih k x (by simpa using h)
        omega
    · have h0 : l.countP (fun x => decide (kE x < r)) = 0 := by
        rw [List.countP_eq_zero]
        intro y hy
        have := h1 y hy
        simp only [decide_eq_true_eq]; omega
      rw [if_neg (by simpa using ha), h0]
      cases k with
      | zero => simp at h; subst h; exact ⟨fun h => absurd h ha, fun h => by omega⟩
      | succ k =>
        have hx : x ∈ l := List.mem_of_getElem? (by simpa using h)
        have := h1 x hx
        exact ⟨fun h => by omega, fun h => by omega⟩
def hasE (l : List EnV) (k : Int) : Bool := match l[posE l k]? with
  | some x => decide (kE x = k)
  | none => false
abbrev idI (r s : Int) : IV := .agg [.v (.int .u16 r), .v (.int .u32 s)]
theorem txId_call (r s c u : Int) (ops : List OpV) : SCall Try.prog 17 [.agg (txL r s c u (.tr ops.length (encs opC ops)))] (idI r s) [.agg (txL r s c u (.tr ops.length (encs opC ops)))] := by
  refine SCall.of_body' (TT := TT) (fun _ => false) [false] ttok Try.func17 rfl (Nat.le_of_ble_eq_true rfl) rfl fun fx hfx => WK.top ?_
  simp only [impl, imp, argT, List.append_nil, List.map_nil, List.nil_append, show Try.f17.ntmps = 8 from rfl, Nat.zero_add, Nat.reduceAdd]
  repeat' (first | refine WK.seq ?_ | refine WK.reg ?_ | refine IL.nil ?_ | (with_reducible refine IL.wr ?_ ?_; focus exact cW) | refine IL.sg ttok ?_)
  all_goals try ((first | refine WK.ret ⟨.inr rfl, ?_⟩ | refine ⟨.inl rfl, ?_⟩ | refine ⟨.inl trivial, ?_⟩); refine Fin.o ?_ ?_ (h1 := by first | rfl | (simp only [go_sem, show Try.f17.results.toList = [.cell 2 57] from rfl, reduceIte] <;> rfl)); rotate_left 1; (focus (first | rfl | skip)); all_goals try with_reducible rfl)
  all_goals first | rfl | skip
def ordI (r s r' s' : Int) : Int := if r = r' then s - s' else r - r'
theorem ordI_lt {r s r' s' : Int} (h : 0 ≤ s ∧ s ≤ 4294967295) (h' : 0 ≤ s' ∧ s' ≤ 4294967295) : ordI r s r' s' < 0 ↔ kN r s < kN r' s' := by
  unfold ordI kN; split <;> omega
theorem ordI_eq {r s r' s' : Int} (h : 0 ≤ s ∧ s ≤ 4294967295) (h' : 0 ≤ s' ∧ s' ≤ 4294967295) : ordI r s r' s' = 0 ↔ kN r s = kN r' s' := by
  unfold ordI kN; split <;> omega
theorem order_call (r s r' s' : Int) (h : (0 ≤ r ∧ r ≤ 65535) ∧ (0 ≤ s ∧ s ≤ 4294967295)) (h' : (0 ≤ r' ∧ r' ≤ 65535) ∧ (0 ≤ s' ∧ s' ≤ 4294967295)) : SCall Try.prog 58 [idI r s, idI r' s'] (.v (.int .i64 (ordI r s r' s'))) [idI r s, idI r' s'] := by
  unfold ordI
  by_cases hr : r = r'
  · rw [if_pos hr]
    refine SCall.of_body' (TT := TT) (fun _ => false) [false, false] ttok Try.func58 rfl (Nat.le_of_ble_eq_true rfl) rfl fun fx hfx => WK.top ?_
    simp only [impl, imp, argT, List.append_nil, List.map_nil, List.nil_append, show Try.f58.ntmps = 24 from rfl, Nat.zero_add, Nat.reduceAdd]
    repeat' (first | refine WK.seq ?_ | refine WK.reg ?_ | refine IL.nil ?_ | refine WK.skip ?_ | (with_reducible refine IL.wr ?_ ?_; focus exact cW) | refine IL.sg ttok ?_ | (refine WK.cn (fun h => ?_) (fun h => ?_); all_goals first | (simp only [reduceCtorEq] at h; done) | (simp only [hsA, hsD, hsE, ne_eq] at h; first | done | (exfalso; omega; done) | skip) | skip))
    all_goals try ((first | refine WK.ret ⟨.inr rfl, ?_⟩ | refine ⟨.inl rfl, ?_⟩ | refine ⟨.inl trivial, ?_⟩); refine Fin.o ?_ ?_ (h1 := by first | rfl | (simp only [go_sem, show Try.f58.results.toList = [.tmp 4] from rfl, reduceIte] <;> rfl)); rotate_left 1; (focus (first | rfl | skip)); all_goals try with_reducible rfl)
    all_goals skip
  · rw [if_neg hr]
    refine SCall.of_body' (TT := TT) (fun _ => false) [false, false] ttok Try.func58 rfl (Nat.le_of_ble_eq_true rfl) rfl fun fx hfx => WK.top ?_
    simp only [impl, imp, argT, List.append_nil, List.map_nil, List.nil_append, show Try.f58.ntmps = 24 from rfl, Nat.zero_add, Nat.reduceAdd]
    repeat' (first | refine WK.seq ?_ | refine WK.reg ?_ | refine IL.nil ?_ | refine WK.skip ?_ | (with_reducible refine IL.wr ?_ ?_; focus exact cW) | refine IL.sg ttok ?_ | (refine WK.cn (fun h => ?_) (fun h => ?_); all_goals first | (simp only [reduceCtorEq] at h; done) | (simp only [hsA, hsD, hsE, ne_eq] at h; first | done | (exfalso; omega; done) | skip) | skip))
    all_goals try ((first | refine WK.ret ⟨.inr rfl, ?_⟩ | refine ⟨.inl rfl, ?_⟩ | refine ⟨.inl trivial, ?_⟩); refine Fin.o ?_ ?_ (h1 := by first | rfl | (simp only [go_sem, show Try.f58.results.toList = [.tmp 4] from rfl, reduceIte] <;> rfl)); rotate_left 1; (focus (first | rfl | skip)); all_goals try with_reducible rfl)
    all_goals skip
theorem find1_call (e : EnV) (r s : Int) (h : nb e) (h' : (0 ≤ r ∧ r ≤ 65535) ∧ (0 ≤ s ∧ s ≤ 4294967295)) : SCall Try.prog 57 [.agg (envC e), idI r s] (.v (.int .i64 (ordI e.r e.s r s))) [.agg (envC e), idI r s] := by
  have hor := order_call e.r e.s r s h h'
  unfold envC
  generalize ordI e.r e.s r s = O at *
  refine SCall.of_body' (TT := TT) (fun _ => false) [false, false] ttok Try.func57 rfl (Nat.le_of_ble_eq_true rfl) rfl fun fx hfx => WK.top ?_
  simp only [impl, imp, argT, List.append_nil, List.map_nil, List.nil_append, show Try.f57.ntmps = 10 from rfl, Nat.zero_add, Nat.reduceAdd]
  repeat' (first | refine WK.seq ?_ | refine WK.reg ?_ | refine IL.nil ?_ | refine WK.drawnS (id := 1) mixed [] [2, 4] [0, 0, 0, 0, 1, 2] [0, 0, 0, 1, 1, 2] (by decide +kernel) ?_ | refine DW.nil ?_ | (with_reducible refine IL.wr ?_ ?_; focus exact cW) | (with_reducible refine DW.wr ?_ ?_; focus exact cW) | refine IL.sg ttok ?_ | refine DW.re ttok ?_ | refine DW.rm ttok ?_ | refine DW.cS ttok ent17 [.bor] true ?_ (hS := by exact txId_call _ _ _ _ _) | refine DW.cS ttok ent58 [.bor, .bor] true ?_ (hS := by exact hor))
  all_goals try ((first | refine WK.ret ⟨.inr rfl, ?_⟩ | refine ⟨.inl rfl, ?_⟩ | refine ⟨.inl trivial, ?_⟩); refine Fin.o ?_ ?_ (h1 := by first | rfl | (simp only [go_sem, show Try.f57.results.toList = [.tmp 4] from rfl, reduceIte] <;> rfl)); rotate_left 1; (focus (first | rfl | skip)); all_goals try with_reducible rfl)
  all_goals skip
theorem bsfE_call (l : List EnV) (r s : Int) (hs : SrtE l) (hl : ∀ x ∈ l, nb x) (hr : (0 ≤ r ∧ r ≤ 65535) ∧ (0 ≤ s ∧ s ≤ 4294967295)) (hn : l.length ≤ 1000000) :
    SCallF [] Try.prog 56 [none, none, some (57, 0)] [.tr l.length (encs envC l), idI r s] (.tup [.v (.int .i64 (posE l (kN r s))), .v (.bool (hasE l (kN r s)))]) [.tr l.length (encs envC l), idI r s] := by
  generalize hK : kN r s = K
  have hp := posE_le l K
  refine SCallF.of_body' (G := []) [none, none, some (57, 0)] (TT := TT) (fun k => decide (k < 0)) [false, false] ttok Try.func56 rfl (Nat.le_of_ble_eq_true rfl) rfl fun fx hfx hgf => WK.top ?_
  simp only [impl, imp, argT, packIV, pk, List.take_succ_cons, List.drop_succ_cons, List.take_zero, List.drop_zero, List.append_nil, List.map_nil, List.map_cons, List.nil_append, List.cons_append, List.length_cons, List.length_nil, show Try.f56.ntmps = 49 from rfl, Nat.zero_add, Nat.reduceAdd]
  repeat' (first | refine WK.seq ?_ | refine WK.reg ?_ | refine IL.nil ?_ | refine WK.skip ?_ | refine WK.block ?_ | refine WK.exit_here ?_ | refine WK.e1 ?_ | refine WK.e2 ?_ | refine WK.drawnS (id := 5) mixed [] [6] [0, 0, 0, 0, 0, 0, 0, 1] [0, 0, 0, 0, 0, 0, 0, 1] (by decide +kernel) ?_ | refine WK.drawnS (id := 8) mixed [] [11] [0, 0, 0, 0, 0, 0, 0, 0, 0, 0, 0, 0, 1, 1, 1, 1] [1, 0, 0, 0, 0, 0, 0, 0, 0, 0, 0, 0, 1, 1, 1, 1] (by decide +kernel) ?_ | refine DW.nil ?_ | (with_reducible refine IL.wr ?_ ?_; focus exact cW) | (with_reducible refine DW.wr ?_ ?_; focus exact cW) | refine IL.sg ttok ?_ | refine DW.re ttok ?_ | refine DW.rm ttok ?_ | refine DW.nn ?_ | refine DW.nb ?_ | refine DW.cS ttok ent57 [.bor, .bor] true ?_ (hS := by exact hcm) | ((first | ((first | refine DW.ag (fun h => ?_) (fun h => ?_) | refine DW.ap (fun h => ?_) (fun h => ?_)); (fail_if_success (focus (simp only [reduceCtorEq] at h)))) | refine WK.cn (fun h => ?_) (fun h => ?_)); all_goals first | (simp only [reduceCtorEq] at h; done) | (simp only [hsA, hsD, hsE, ne_eq] at h; first | done | (exfalso; omega; done) | skip) | skip))
  refine WK.whileS (α := Nat × Nat) (fun x => x.2 - x.1) (fun x => x.1 ≤ posE l K ∧ posE l K ≤ x.2 ∧ x.2 ≤ l.length) (fun x => ⟨49, [(0, .tr l.length (encs envC l)), (2, .fn (.func 57) []), (4, .ptr 0 0 0), (8, .v (.int .i64 l.length)), (9, .v (.int .i64 (x.1 : Nat))), (10, .v (.int .i64 (x.2 : Nat)))], [some ⟨false, 0, 1, false, [.v (.int .u16 r), .v (.int .u32 s)], 0, false⟩]⟩) (0, l.length) ⟨⟨Nat.zero_le _, hp, Nat.le_refl _⟩, ?_⟩ ?_
  · (refine Weak.renS [0] hfx rfl ?_ ?_ rfl <;> (simp only [go_sem, reduceIte, exists_eq_left', exists_eq_left, Blk.mk.injEq] <;> (try and_intros) <;> first | rfl | omega))
  · rintro ⟨i, j⟩ ⟨h1, h2, h3⟩
    simp only at h1 h2 h3
    by_cases hij : i < j
    · have hh : (i + j) / 2 < l.length := by omega
      have hx : l[(i + j) / 2]? = some l[(i + j) / 2] := List.getElem?_eq_getElem hh
      have hpi := posE_iff hs _ _ hx (r := K)
      have hb1 := hl _ (List.getElem_mem hh)
      have hcm := find1_call l[(i + j) / 2] r s hb1 hr
      have hlt := ordI_lt (r := l[(i + j) / 2].r) (r' := r) hb1.2 hr.2
      rw [hK] at hlt
      have hat : ((encs envC l).drop ((i + j) / 2 * 6)).take 6 = envC l[(i + j) / 2] := encs_at envC_length hx
      have hle : (i + j) / 2 * 6 + 6 ≤ l.length * 6 := by omega
      have hne : encs envC l ≠ [] := encs_ne envC_length (by decide) hx
      have hw : IntKind.i64.wrap ((i : Int) + (j : Int)) = (i : Int) + (j : Int) := wrap_i64 (by omega) (by omega)
      have hsh : ((i : Int) + (j : Int)).fdiv (2 ^ min 1 64) = (((i + j) / 2 : Nat) : Int) := by
        rw [show min 1 64 = 1 from rfl, Int.fdiv_eq_ediv_of_nonneg _ (by decide)]; omega
      have hsh2 : ((i : Int) + (j : Int)).fdiv (2 ^ 1) = (((i + j) / 2 : Nat) : Int) := by
        rw [Int.fdiv_eq_ediv_of_nonneg _ (by decide)]; omega
      have hkx : kE l[(i + j) / 2] < K ↔ ordI l[(i + j) / 2].r l[(i + j) / 2].s r s < 0 := hlt.symm
      rw [hkx] at hpi
      clear hlt hkx hx hb1
      generalize ordI l[(i + j) / 2].r l[(i + j) / 2].s r s = O at *
      generalize l[(i + j) / 2] = x at *
      generalize hm : (i + j) / 2 = m at *
      have FX := And.intro hat (And.intro hle (And.intro hsh hsh2))
      repeat' (first | refine WK.seq ?_ | refine WK.reg ?_ | refine IL.nil ?_ | refine WK.skip ?_ | refine WK.block ?_ | refine WK.exit_here ?_ | refine WK.e1 ?_ | refine WK.e2 ?_ | refine WK.drawnS (id := 5) mixed [] [6] [0, 0, 0, 0, 0, 0, 0, 1] [0, 0, 0, 0, 0, 0, 0, 1] (by decide +kernel) ?_ | refine WK.drawnS (id := 8) mixed [] [11] [0, 0, 0, 0, 0, 0, 0, 0, 0, 0, 0, 0, 1, 1, 1, 1] [1, 0, 0, 0, 0, 0, 0, 0, 0, 0, 0, 0, 1, 1, 1, 1] (by decide +kernel) ?_ | refine DW.nil ?_ | (with_reducible refine IL.wr ?_ ?_; focus exact cW) | (with_reducible refine DW.wr ?_ ?_; focus exact cW) | refine IL.sgF ttok ?_ | refine DW.reF ttok ?_ | refine DW.rmF ttok ?_ | refine DW.nn ?_ | refine DW.nb ?_ | refine DW.cSF ttok ent57 [.bor, .bor] true ?_ (hS := by exact hcm) | ((first | ((first | refine DW.ag (fun h => ?_) (fun h => ?_) | refine DW.ap (fun h => ?_) (fun h => ?_)); (fail_if_success (focus (simp only [reduceCtorEq] at h)))) | refine WK.cn (fun h => ?_) (fun h => ?_)); all_goals first | (simp only [reduceCtorEq] at h; done) | (simp only [hsA, hsD, hsE, ne_eq] at h; first | done | (exfalso; omega; done) | skip) | skip))
      · refine ⟨(m + 1, j), by simp only; omega, ⟨by simp only; omega, h2, h3⟩, ?_⟩
        (refine Weak.renS [0] hfx rfl ?_ ?_ rfl <;> (simp only [go_sem, reduceIte, exists_eq_left', exists_eq_left, Blk.mk.injEq] <;> (try and_intros) <;> first | rfl | omega))
      · refine ⟨(i, m), by simp only; omega, ⟨h1, by simp only; omega, by simp only; omega⟩, ?_⟩
        (refine Weak.renS [0] hfx rfl ?_ ?_ rfl <;> (simp only [go_sem, reduceIte, exists_eq_left', exists_eq_left, Blk.mk.injEq] <;> (try and_intros) <;> first | rfl | omega))
    · obtain rfl : i = posE l K := by omega
      obtain rfl : j = posE l K := by omega
      by_cases hp2 : posE l K < l.length
      · have hx : l[posE l K]? = some l[posE l K] := List.getElem?_eq_getElem hp2
        have hb1 := hl _ (List.getElem_mem hp2)
        have hcm := find1_call l[posE l K] r s hb1 hr
        have hat : ((encs envC l).drop (posE l K * 6)).take 6 = envC l[posE l K] := encs_at envC_length hx
        have hle : posE l K * 6 + 6 ≤ l.length * 6 := by omega
        have hne : encs envC l ≠ [] := encs_ne envC_length (by decide) hx
        have heq := ordI_eq (r := l[posE l K].r) (r' := r) hb1.2 hr.2
        rw [hK] at heq
        have hh : hasE l K = decide (kE l[posE l K] = K) := by unfold hasE; rw [hx]
        rw [hh]
        have hd : (ordI l[posE l K].r l[posE l K].s r s == 0) = decide (kE l[posE l K] = K) := by
          by_cases h : kE l[posE l K] = K
          · rw [decide_eq_true h]; exact beq_iff_eq.2 (heq.2 h)
          · rw [decide_eq_false h]; exact beq_eq_false_iff_ne.2 fun e => h (heq.1 e)
        clear heq hb1 hx hh
        generalize ordI l[posE l K].r l[posE l K].s r s = O at *
        generalize decide (kE l[posE l K] = K) = D at *
        generalize l[posE l K] = x at *
        generalize posE l K = m at *
        have FX := And.intro hat (And.intro hle hd)
        repeat' (first | refine WK.seq ?_ | refine WK.reg ?_ | refine IL.nil ?_ | refine WK.skip ?_ | refine WK.block ?_ | refine WK.exit_here ?_ | refine WK.e1 ?_ | refine WK.e2 ?_ | refine WK.drawnS (id := 5) mixed [] [6] [0, 0, 0, 0, 0, 0, 0, 1] [0, 0, 0, 0, 0, 0, 0, 1] (by decide +kernel) ?_ | refine WK.drawnS (id := 8) mixed [] [11] [0, 0, 0, 0, 0, 0, 0, 0, 0, 0, 0, 0, 1, 1, 1, 1] [1, 0, 0, 0, 0, 0, 0, 0, 0, 0, 0, 0, 1, 1, 1, 1] (by decide +kernel) ?_ | refine DW.nil ?_ | (with_reducible refine IL.wr ?_ ?_; focus exact cW) | (with_reducible refine DW.wr ?_ ?_; focus exact cW) | refine IL.sgF ttok ?_ | refine DW.reF ttok ?_ | refine DW.rmF ttok ?_ | refine DW.nn ?_ | refine DW.nb ?_ | refine DW.cSF ttok ent57 [.bor, .bor] true ?_ (hS := by exact hcm) | ((first | ((first | refine DW.ag (fun h => ?_) (fun h => ?_) | refine DW.ap (fun h => ?_) (fun h => ?_)); (fail_if_success (focus (simp only [reduceCtorEq] at h)))) | refine WK.cn (fun h => ?_) (fun h => ?_)); all_goals first | (simp only [reduceCtorEq] at h; done) | (simp only [hsA, hsD, hsE, ne_eq] at h; first | done | (exfalso; omega; done) | skip) | skip))
        all_goals try ((first | refine WK.ret ⟨.inr rfl, ?_⟩ | refine ⟨.inl rfl, ?_⟩ | refine ⟨.inl trivial, ?_⟩); refine Fin.o ?_ ?_ (h1 := by first | rfl | (simp only [go_sem, show Try.f56.results.toList = [.tmp 6, .tmp 7] from rfl, reduceIte] <;> rfl)); rotate_left 1; (focus (first | rfl | skip)); all_goals try with_reducible rfl)
        all_goals skip
      · have hh : hasE l K = false := by unfold hasE; rw [List.getElem?_eq_none (by omega)]
        rw [hh]
        clear hh
        generalize posE l K = m at *
        repeat' (first | refine WK.seq ?_ | refine WK.reg ?_ | refine IL.nil ?_ | refine WK.skip ?_ | refine WK.block ?_ | refine WK.exit_here ?_ | refine WK.e1 ?_ | refine WK.e2 ?_ | refine WK.drawnS (id := 5) mixed [] [6] [0, 0, 0, 0, 0, 0, 0, 1] [0, 0, 0, 0, 0, 0, 0, 1] (by decide +kernel) ?_ | refine WK.drawnS (id := 8) mixed [] [11] [0, 0, 0, 0, 0, 0, 0, 0, 0, 0, 0, 0, 1, 1, 1, 1] [1, 0, 0, 0, 0, 0, 0, 0, 0, 0, 0, 0, 1, 1, 1, 1] (by decide +kernel) ?_ | refine DW.nil ?_ | (with_reducible refine IL.wr ?_ ?_; focus exact cW) | (with_reducible refine DW.wr ?_ ?_; focus exact cW) | refine IL.sg ttok ?_ | refine DW.re ttok ?_ | refine DW.rm ttok ?_ | refine DW.nn ?_ | refine DW.nb ?_ | refine DW.cS ttok ent57 [.bor, .bor] true ?_ (hS := by exact hcm) | ((first | ((first | refine DW.ag (fun h => ?_) (fun h => ?_) | refine DW.ap (fun h => ?_) (fun h => ?_)); (fail_if_success (focus (simp only [reduceCtorEq] at h)))) | refine WK.cn (fun h => ?_) (fun h => ?_)); all_goals first | (simp only [reduceCtorEq] at h; done) | (simp only [hsA, hsD, hsE, ne_eq] at h; first | done | (exfalso; omega; done) | skip) | skip))
        all_goals try ((first | refine WK.ret ⟨.inr rfl, ?_⟩ | refine ⟨.inl rfl, ?_⟩ | refine ⟨.inl trivial, ?_⟩); refine Fin.o ?_ ?_ (h1 := by first | rfl | (simp only [go_sem, show Try.f56.results.toList = [.tmp 6, .tmp 7] from rfl, reduceIte] <;> rfl)); rotate_left 1; (focus (first | rfl | skip)); all_goals try with_reducible rfl)
        all_goals skip
abbrev bufO (l : List EnV) : IV := .obj [.own 36 l.length false (encs envC l)]
theorem findE_call (l : List EnV) (r s : Int) (hs : SrtE l) (hl : ∀ x ∈ l, nb x) (hr : (0 ≤ r ∧ r ≤ 65535) ∧ (0 ≤ s ∧ s ≤ 4294967295)) (hn : l.length ≤ 1000000) :
    SCall Try.prog 35 [bufO l, idI r s] (.tup [.v (.int .i64 (posE l (kN r s))), .v (.bool (hasE l (kN r s)))]) [bufO l, idI r s] := by
  refine SCallG.toS ?_
  refine SCallG.of_body' (G := []) (TT := TT) (fun k => decide (k < 1)) [false, false] ttok Try.func35 rfl (Nat.le_of_ble_eq_true rfl) rfl fun fx hfx hgf => WK.top ?_
  simp only [impl, imp, argT, List.append_nil, List.map_nil, List.map_cons, List.nil_append, List.cons_append, List.length_cons, List.length_nil, show Try.f35.ntmps = 14 from rfl, Nat.zero_add, Nat.reduceAdd]
  repeat' (first | refine WK.seq ?_ | refine WK.reg ?_ | refine IL.nil ?_ | refine WK.drawnS (id := 1) mixed [] [5] [0, 0, 0, 0, 0, 0, 1, 1, 1, 1] [0, 0, 0, 0, 0, 0, 1, 1, 1, 1] (by decide +kernel) ?_ | refine DW.nil ?_ | (with_reducible refine IL.wr ?_ ?_; focus exact cW) | (with_reducible refine DW.wr ?_ ?_; focus exact cW) | refine IL.sg ttok ?_ | refine DW.re ttok ?_ | refine DW.rm ttok ?_ | (refine DW.callSF [none, none, some (57, 0)] hgf (f := 56) (xs := ?_) (A := ?_) (A' := ?_) (rr := ?_) (L' := ?_) (T' := ?_) (bs := ?_) (ks := ?_) (sets := ?_) (pushes := ?_) ttok ent56 [.bor, .bor] true rfl ?_ ?_ ?_ ?_ ?_ ?_ ?_ ?_ ?_ ?_ (fun K hK => ?_) ?_ ?_ ?_; rotate_left 10; (focus exact cG); (focus rfl); (focus rfl); (focus (first | rfl | (simp only [go_sem, reduceIte] <;> rfl))); (focus (exact bsfE_call _ _ _ hs hl hr hn)); (focus rfl); (focus rfl); (focus (first | rfl | simp only [go_sem])); (focus (first | rfl | (simp only [go_sem, reduceIte] <;> rfl))); (focus simp); (focus (simp only [go_sem, reduceIte]; exact cK hK)); (focus (first | exact ⟨_, rfl⟩ | rfl)); (focus (first | exact .inl rfl | exact .inr (LEX.refl _ _) | exact .inr (LE.app _ _).lex | exact .inr (LEX.of (by simp only [go_sem, List.contains_cons, List.contains_nil, Nat.reduceBEq, Bool.or_false, Bool.false_or, Nat.reduceAdd, true_or, false_or, true_and]; first | done | trivial | (and_intros <;> first | exact ⟨_, rfl⟩ | trivial)))))))
  all_goals try ((first | refine WK.ret ⟨.inr rfl, ?_⟩ | refine ⟨.inl rfl, ?_⟩ | refine ⟨.inl trivial, ?_⟩); refine Fin.o ?_ ?_ (h1 := by first | rfl | (simp only [go_sem, show Try.f35.results.toList = [.tmp 4, .tmp 5] from rfl, reduceIte] <;> rfl)); rotate_left 1; (focus (first | rfl | skip)); all_goals try with_reducible rfl)
  all_goals skip
theorem len_call (l : List EnV) : SCall Try.prog 23 [bufO l] (.v (.int .i64 (l.length : Int))) [bufO l] := by
  refine SCall.of_body' (TT := TT) (fun k => decide (k < 1)) [false] ttok Try.func23 rfl (Nat.le_of_ble_eq_true rfl) rfl fun fx hfx => WK.top ?_
  simp only [impl, imp, argT, List.append_nil, List.map_nil, List.map_cons, List.nil_append, List.cons_append, List.length_cons, List.length_nil, show Try.f23.ntmps = 8 from rfl, Nat.zero_add, Nat.reduceAdd]
  repeat' (first | refine WK.seq ?_ | refine WK.reg ?_ | refine IL.nil ?_ | (with_reducible refine IL.wr ?_ ?_; focus exact cW) | refine IL.sg ttok ?_)
  all_goals try ((first | refine WK.ret ⟨.inr rfl, ?_⟩ | refine ⟨.inl rfl, ?_⟩ | refine ⟨.inl trivial, ?_⟩); refine Fin.o ?_ ?_ (h1 := by first | rfl | (simp only [go_sem, show Try.f23.results.toList = [.tmp 2] from rfl, reduceIte] <;> rfl)); rotate_left 1; (focus (first | rfl | skip)); all_goals try with_reducible rfl)
  all_goals skip
end Go.Proofs.Ytclhjcbnpdlgbaa
/- slices.Insert and slices.Delete at envelopes. -/
namespace Go.Proofs.Ytclhjcbnpdlgbaa
open Go Go.Lift Go.Lib
set_option maxHeartbeats 4000000
set_option maxRecDepth 100000
set_option linter.unusedSimpArgs false
set_option linter.unusedVariables false

theorem eins_shift (g n c i gv m vc : Nat) (cur curv : Array Value) (us vs : List Value) (w : World) (hi : i < n) (hm : 0 < m) (hroom : n + m ≤ c) (hc63 : c ≤ 9223372036854775807) (hne : gv ≠ g)
    (hg : w.heap[g]? = some (.cells cur 36 (0, 0))) (hcur : cur.size = c * 6) (hgv : w.heap[gv]? = some (.cells curv 36 (0, 0)))
    (hus : us.length = (n - i) * 6) (hu : ∀ (j : Nat) (v : Value), us[j]? = some v → cur[i * 6 + j]? = some v) (hvs : vs.length = m * 6) (hv : ∀ (j : Nat) (v : Value), vs[j]? = some v → curv[j]? = some v) (h1c : ∀ v ∈ us, v.oneCell' = true) (h1v : ∀ v ∈ vs, v.oneCell' = true) :
    Calls Try.prog 36 #[.slice (some ⟨g, 0, none⟩) n c, .int .i64 i, .slice (some ⟨gv, 0, none⟩) m vc] w fun e w' =>
      e = .returned (.slice (some ⟨g, 0, none⟩) (n + m) c) ∧ w' = (w.drew.setRow g (spl cur ((i + m) * 6) us)).setRow g (spl (spl cur ((i + m) * 6) us) (i * 6) vs) := by
  have hmixed := mixed
  obtain ⟨i0, hi0, hi1, hi2⟩ : ∃ i0, (Try.prog).info? 36 = some i0 ∧ i0.size = 6 ∧ True := ⟨_, rfl, rfl, trivial⟩
  have u1 : (Try.prog).underlying 22 = some (.slice 36) := by kernel_rfl
  have u2 : (Try.prog).underlying 22 = some (.slice 36) := by kernel_rfl
  have v1 := fun w => run_underlying (w := w) u1
  have v2 := fun w => run_underlying (w := w) u2
  have z1 : ∀ w, (Go.sizeOf 36).run Try.prog w = .ok 6 w := fun w => by simp [sizeOf, typeInfo, hi0, hi1]
  have hz1 : ¬ ((m : Int) = 0) := by omega
  have hz2 : ¬ ((i : Int) = (n : Int)) := by omega
  have hcell : ∀ j, w.cell? ⟨g, j, none⟩ = cur[j]? := fun j => cell_of_row w g j cur _ _ hg
  have hcp1 : ∀ ty dc sc, (Builtin.copy_ #[22, 22] ty #[.slice (some ⟨g, (i + m) * 6, none⟩) (n + m - (i + m)) dc, .slice (some ⟨g, i * 6, none⟩) (n + m - i) sc]).run Try.prog w.drew = .ok (goInt (n - i : Nat)) (w.drew.setRow g (spl cur ((i + m) * 6) us)) := fun ty dc sc =>
    run_copyR w.drew u1 hi0 (g := g) (T := 36) (arr := cur) hg _ _ _ _ _ (n - i) us (by omega) (by rw [hus, hi1]) (fun j v hj => by
      rw [Addr.add_lit]
      exact (hcell _).trans (hu j v hj)) (by rw [hus, hcur]; omega) h1c
  have hsz := spl_size cur ((i + m) * 6) us (by rw [hus, hcur]; omega)
  obtain ⟨W1, hW1⟩ : ∃ W1, W1 = w.drew.setRow g (spl cur ((i + m) * 6) us) := ⟨_, rfl⟩
  have hgv1 : W1.heap[gv]? = some (.cells curv 36 (0, 0)) := by
    rw [hW1, setRow_other _ _ _ _ hne]; exact hgv
  have hcp2 : ∀ ty dc, (Builtin.copy_ #[22, 22] ty #[.slice (some ⟨g, i * 6, none⟩) (n + m - i) dc, .slice (some ⟨gv, 0, none⟩) m vc]).run Try.prog W1 = .ok (goInt (m : Nat)) (W1.setRow g (spl (spl cur ((i + m) * 6) us) (i * 6) vs)) := fun ty dc =>
    run_copyR W1 u1 hi0 (g := g) (T := 36) (arr := spl cur ((i + m) * 6) us) (by rw [hW1]; exact setRow_heap w.drew g cur _ _ _ hg) _ _ _ _ _ m vs (by omega) (by rw [hvs, hi1]) (fun j v hj => by
      rw [Addr.add_lit, Nat.zero_add]
      exact (cell_of_row _ gv j curv _ _ hgv1).trans (hv j v hj)) (by rw [hsz, hvs, hcur]; omega) h1v
  subst hW1
  have hov : ∀ lb cb, (callFunc 59 #[.slice (some ⟨gv, 0, none⟩) m vc, .slice (some ⟨g, (i + m) * 6, none⟩) lb cb]).run Try.prog w = .ok (.value (.bool false)) w := fun lb cb => by
    rw [run_callFunc_extern Try.func59 (by kernel_rfl) (by kernel_rfl) (by kernel_rfl) (e := Extern.SlicesOverlaps.overlaps #[22, 22] #[4]) (by kernel_rfl),
      Lib.run_overlaps_apart w 22 4 36 u2 6 z1 ⟨gv, 0, none⟩ ⟨g, (i + m) * 6, none⟩ m vc lb cb hne 36 36 curv.size cur.size (by simp [World.shape?, hgv]) (by simp [World.shape?, hg]) (by omega) (by simp [World.frozen?, hgv]) (by simp [World.frozen?, hgv])]
    rfl
  have hw1 : IntKind.i64.wrap ((i : Int) + (m : Int)) = (i : Int) + (m : Int) := by rw [IntKind.wrap_i64]; omega
  have hb1 : (0 : Int) ≤ (i : Int) + (m : Int) := by omega
  have hin : i ≤ n := by omega
  have htn : ((i : Int) + (m : Int)).toNat = i + m := by omega
  have hb2 : ¬ (c = i + m) := by omega
  have hb3 : (i : Int) ≤ (n : Int) + (m : Int) := by omega
  have hb4 : ¬ (c = i) := by omega
  clear hus hu hvs hv h1c h1v hcur hsz hcell hgv1 hg hgv
  go_enter Try.func36, Try.ntmps36
  go_wp2_with (simp only [hov])
  go_region_law_o (refine step_copy_runI rfl _ _ 22 22 rfl _ _ (by simp [Act.eval, Act.put]) (by simp [Act.eval, Act.put]) (hcp1 _ _ _) ?_)
  go_wp2_with (at_builtin; refine wpList_copy_runI _ rfl _ _ 22 22 rfl _ _ rfl rfl (hcp2 _ _) ?_)
  go_ret
  exact ⟨rfl, rfl⟩

theorem eins_end (base : Option Addr) (n c gv m vc : Nat) (w w1 : World) (v : Value) (hm : 0 < m) (hnc : n ≤ c) (hc63 : c ≤ 9223372036854775807)
    (hrun : ∀ ty, (Builtin.append_ #[22, 22] ty #[.slice base n c, .slice (some ⟨gv, 0, none⟩) m vc]).run Try.prog w = .ok v w1) :
    Calls Try.prog 36 #[.slice base n c, .int .i64 n, .slice (some ⟨gv, 0, none⟩) m vc] w fun e w' => e = .returned v ∧ w' = w1 := by
  have hmixed := mixed
  have u1 : (Try.prog).underlying 22 = some (.slice 36) := by kernel_rfl
  have u2 : (Try.prog).underlying 22 = some (.slice 36) := by kernel_rfl
  have v1 := fun w => run_underlying (w := w) u1
  have v2 := fun w => run_underlying (w := w) u2
  obtain ⟨i0, hi0, hi1⟩ : ∃ i0, (Try.prog).info? 36 = some i0 ∧ i0.size = 6 := ⟨_, rfl, rfl⟩
  have z1 : ∀ w, (Go.sizeOf 36).run Try.prog w = .ok 6 w := fun w => by simp [sizeOf, typeInfo, hi0, hi1]
  have hz1 : ¬ ((m : Int) = 0) := by omega
  go_enter Try.func36, Try.ntmps36
  cases base with
  | none =>
    go_wp2_with (at_builtin; refine Lib.wpList_append_run _ rfl _ _ _ _ rfl _ _ rfl rfl _ _ (hrun _) ?_)
    all_goals (go_ret; exact ⟨rfl, rfl⟩)
  | some a =>
    obtain ⟨ab, ao, asp⟩ := a
    go_wp2_with (at_builtin; refine Lib.wpList_append_run _ rfl _ _ _ _ rfl _ _ rfl rfl _ _ (hrun _) ?_)
    all_goals (go_ret; exact ⟨rfl, rfl⟩)
theorem eins_grow (g n c i gv m vc g2 c2 : Nat) (w w1 w2 w3 : World) (hi : i < n) (hnc : n ≤ c) (hm : 0 < m) (hroom : c < n + m) (hc63 : n + m ≤ 9223372036854775807) (hc2 : n + m ≤ c2)
    (hrz : ∀ ty, (Builtin.append_ #[22, 3] ty #[.slice (some ⟨g, 0, none⟩) i c, .int .i64 ((n : Int) + m - i)]).run Try.prog w = .ok (.slice (some ⟨g2, 0, none⟩) (n + m) c2) w1)
    (hcpA : ∀ ty dc, (Builtin.copy_ #[22, 22] ty #[.slice (some ⟨g2, i * 6, none⟩) (n + m - i) dc, .slice (some ⟨gv, 0, none⟩) m vc]).run Try.prog w1 = .ok (goInt (m : Nat)) w2)
    (hcpB : ∀ ty dc sc, (Builtin.copy_ #[22, 22] ty #[.slice (some ⟨g2, (i + m) * 6, none⟩) (n + m - (i + m)) dc, .slice (some ⟨g, i * 6, none⟩) (n - i) sc]).run Try.prog w2.drew = .ok (goInt (n - i : Nat)) w3) :
    Calls Try.prog 36 #[.slice (some ⟨g, 0, none⟩) n c, .int .i64 i, .slice (some ⟨gv, 0, none⟩) m vc] w fun e w' =>
      e = .returned (.slice (some ⟨g2, 0, none⟩) (n + m) c2) ∧ w' = w3 := by
  have hmixed := mixed
  have u1 : (Try.prog).underlying 22 = some (.slice 36) := by kernel_rfl
  have u2 : (Try.prog).underlying 22 = some (.slice 36) := by kernel_rfl
  have v1 := fun w => run_underlying (w := w) u1
  have v2 := fun w => run_underlying (w := w) u2
  obtain ⟨i0, hi0, hi1⟩ : ∃ i0, (Try.prog).info? 36 = some i0 ∧ i0.size = 6 := ⟨_, rfl, rfl⟩
  have z1 : ∀ w, (Go.sizeOf 36).run Try.prog w = .ok 6 w := fun w => by simp [sizeOf, typeInfo, hi0, hi1]
  have hz1 : ¬ ((m : Int) = 0) := by omega
  have hz2 : ¬ ((i : Int) = (n : Int)) := by omega
  have hz3 : (c : Int) < (n : Int) + (m : Int) := by omega
  have hw1 : IntKind.i64.wrap ((i : Int) + (m : Int)) = (i : Int) + (m : Int) := by rw [IntKind.wrap_i64]; omega
  have hb1 : (0 : Int) ≤ (i : Int) + (m : Int) := by omega
  have hin : i ≤ n := by omega
  have htn : ((i : Int) + (m : Int)).toNat = i + m := by omega
  have hb3 : (i : Int) ≤ (n : Int) := by omega
  have hGi : ¬ (c2 = i) := by omega
  have hGim : ¬ (c2 = i + m) := by omega
  have hci : ¬ (c = i) := by omega
  go_enter Try.func36, Try.ntmps36
  go_wp2_with (first
    | (at_builtin; refine Lib.wpList_append_run _ rfl _ _ _ _ rfl _ _ rfl rfl _ _ (hrz _) ?_)
    | (at_builtin; refine wpList_copy_runI _ rfl _ _ 22 22 rfl _ _ rfl rfl (hcpA _ _) ?_))
  go_region_law_o (refine step_copy_runI rfl _ _ 22 22 rfl _ _ (by simp [Act.eval, Act.put]) (by simp [Act.eval, Act.put]) (hcpB _ _ _) ?_)
  go_wp2
  go_ret
  exact ⟨rfl, rfl⟩
theorem edel_walk (g n c i j : Nat) (A : Addr) (w w1 w2 : World) (hij : i < j) (hj : j ≤ n) (hnc : n ≤ c) (hc63 : c ≤ 9223372036854775807) (hA : (if c = j then (some ⟨g, 0, none⟩ : Option Addr) else some ⟨g, j * 6, none⟩) = some A)
    (hap : ∀ ty, (Builtin.append_ #[22, 22] ty #[.slice (some ⟨g, 0, none⟩) i c, .slice (some A) (n - j) (c - j)]).run Try.prog w.drew = .ok (.slice (some ⟨g, 0, none⟩) (i + (n - j)) c) w1)
    (hclr : ∀ ty, (Builtin.clear_ #[22] ty #[.slice (some ⟨g, (i + (n - j)) * 6, none⟩) (n - (i + (n - j))) (c - (i + (n - j)))]).run Try.prog w1 = .ok (.tuple #[]) w2) :
    Calls Try.prog 38 #[.slice (some ⟨g, 0, none⟩) n c, .int .i64 i, .int .i64 j] w fun e w' => e = .returned (.slice (some ⟨g, 0, none⟩) (i + (n - j)) c) ∧ w' = w2 := by
  have hmixed := mixed
  have u1 : (Try.prog).underlying 22 = some (.slice 36) := by kernel_rfl
  have v1 := fun w => run_underlying (w := w) u1
  obtain ⟨i0, hi0, hi1⟩ : ∃ i0, (Try.prog).info? 36 = some i0 ∧ i0.size = 6 := ⟨_, rfl, rfl⟩
  have z1 : ∀ w, (Go.sizeOf 36).run Try.prog w = .ok 6 w := fun w => by simp [sizeOf, typeInfo, hi0, hi1]
  have hz1 : ¬ ((i : Int) = (j : Int)) := by omega
  have hic : i ≤ c := by omega
  have hjc : j ≤ c := by omega
  have hci : ¬ (c = i + (n - j)) := by omega
  go_enter Try.func38, Try.ntmps38
  go_wp2_with fail
  go_region_law_o (refine step_append_runI rfl _ _ 22 22 rfl _ _ (by simp [Act.eval, Act.put]) (by simp [Act.eval, Act.put]) (hap _) ?_)
  go_wp2_with (at_builtin; refine wpList_clear_runI _ rfl _ 22 rfl _ rfl (hclr _) ?_)
  go_ret
  exact ⟨rfl, rfl⟩
theorem infoE : ∃ i, (Try.prog).info? 36 = some i ∧ i.size = 6 ∧ i.zero = some (.agg #[.slice none 0 0, .int .u16 0, .int .u32 0, .int .u64 0, .int .i64 0, .slice none 0 0]) ∧ i.bytes = 72 := ⟨_, rfl, rfl, rfl, rfl⟩
theorem eins_call (l : List EnV) (x : EnV) (i : Nat) (hi : i ≤ l.length) (hn : l.length ≤ 1000000) :
    SCall Try.prog 36 [.own 36 l.length false (encs envC l), .v (.int .i64 i), .own 36 1 false (envC x)]
      (.own 36 (l.length + 1) false (encs envC (l.take i ++ ([x] ++ l.drop i)))) [.gone, .v (.int .i64 i), .gone] := by
  obtain ⟨ie, h1, h2, h3, h4⟩ := infoE
  have h := SCall.of_insert (P := Try.prog) (f := 36) (tS := 22) (tV := 22) (tI := 3) (kn := .i64) h1 h2 (by decide) h3 rfl (by kernel_rfl) (by kernel_rfl) (by kernel_rfl)
    eins_shift eins_end eins_grow i l.length 1 false (encs envC l) (envC x) hi (by decide) (by simp only [maxLen]; omega) (by rw [h4]; omega)
  have e : (encs envC l).take (i * 6) ++ envC x ++ (encs envC l).drop (i * 6) = encs envC (l.take i ++ ([x] ++ l.drop i)) := by
    rw [encs_take envC_length, encs_drop envC_length, List.append_assoc, ← encs_append, ← encs_append]; rfl
  rw [e] at h
  exact h
theorem edel_call (l : List EnV) (i : Nat) (hi : i < l.length) (hn : l.length ≤ 1000000) :
    SCall Try.prog 38 [.own 36 l.length false (encs envC l), .v (.int .i64 i), .v (.int .i64 ((i : Int) + 1))]
      (.own 36 (i + (l.length - (i + 1))) false (encs envC (l.take i ++ l.drop (i + 1)))) [.gone, .v (.int .i64 i), .v (.int .i64 ((i : Int) + 1))] := by
  obtain ⟨ie, h1, h2, h3, h4⟩ := infoE
  have h := SCall.of_delete (P := Try.prog) (f := 38) (tS := 22) h1 h2 (by decide) h3 rfl (by decide) (by kernel_rfl)
    edel_walk i (i + 1) l.length false (encs envC l) (by omega) (by omega)
  have e : (encs envC l).take (i * 6) ++ (encs envC l).drop ((i + 1) * 6) = encs envC (l.take i ++ l.drop (i + 1)) := by
    rw [encs_take envC_length, encs_drop envC_length, ← encs_append]
  rw [e, show ((i + 1 : Nat) : Int) = (i : Int) + 1 by omega] at h
  exact h
end Go.Proofs.Ytclhjcbnpdlgbaa
/- package hold: Names, Put, Take. -/
namespace Go.Proofs.Ytclhjcbnpdlgbaa
open Go Go.Lift
set_option maxHeartbeats 4000000
set_option linter.unusedSimpArgs false
set_option linter.unusedVariables false
attribute [local irreducible] WK IL IP IG IW DW

section
variable (d h : List Vc.Ve) (r s c u : Int) (ops : List OpV) (hd : Vc.Vec d) (hh : Vc.Vec h) (hr : 0 ≤ r ∧ r ≤ 65535) (hs : 1 ≤ s ∧ s ≤ 268435456) (ld : d.length ≤ 1000) (lh : h.length ≤ 100000)
include hd hh hr hs ld lh
theorem ready_call : SCall Try.prog 37 [.agg (enT d r s c u ops), .tr h.length (encs Vc.veC h)] (.v (.bool (decide (Vc.getV h r = s - 1) && Vc.covV h d))) [.agg (enT d r s c u ops), .tr h.length (encs Vc.veC h)] := by
  have hcg := Vc.get_call h r hh.s hh.ok.r hr (by omega)
  have hcc := Vc.covers_call h d hh.s hh.ok hd.ok (by omega) (by omega)
  have hw : IntKind.u32.wrap (s - 1) = s - 1 := wrap_u32 (by omega) (by omega)
  by_cases hb : Vc.getV h r = s - 1
  · rw [decide_eq_true hb, Bool.true_and]
    generalize Vc.covV h d = B at *
    generalize Vc.getV h r = g at *
    refine SCall.of_body' (TT := TT) (fun _ => false) [false, false] ttok Try.func37 rfl (Nat.le_of_ble_eq_true rfl) rfl fun fx hfx => WK.top ?_
    simp only [impl, imp, argT, List.append_nil, List.map_nil, List.nil_append, show Try.f37.ntmps = 21 from rfl, Nat.zero_add, Nat.reduceAdd]
    have FX := hw
    repeat' (first | refine WK.seq ?_ | refine WK.reg ?_ | refine IL.nil ?_ | refine WK.drawnS (id := 1) mixed [] [4, 14] [0, 0, 0, 0, 0, 0, 0, 0, 0, 1, 1, 1, 1, 1, 1, 2, 2] [0, 0, 0, 0, 0, 1, 1, 1, 1, 1, 1, 1, 1, 1, 1, 2, 2] (by decide +kernel) ?_ | refine DW.nil ?_ | (with_reducible refine IL.wr ?_ ?_; focus exact cW) | (with_reducible refine DW.wr ?_ ?_; focus exact cW) | refine IL.sgF ttok ?_ | refine DW.reF ttok ?_ | refine DW.rmF ttok ?_ | refine DW.nn ?_ | refine DW.nb ?_ | refine DW.cSF ttok ent61 [.bor, .bor] true ?_ (hS := by exact hcg) | refine DW.cSF ttok ent62 [.bor, .bor] true ?_ (hS := by exact hcc) | (((first | refine DW.ag (fun h => ?_) (fun h => ?_) | refine DW.ap (fun h => ?_) (fun h => ?_)); (fail_if_success (focus (simp only [reduceCtorEq] at h)))); all_goals first | (simp only [reduceCtorEq] at h; done) | (simp only [hsA, hsD, hsE, ne_eq] at h; first | done | (exfalso; omega; done) | skip) | skip))
    all_goals try ((first | refine WK.ret ⟨.inr rfl, ?_⟩ | refine ⟨.inl rfl, ?_⟩ | refine ⟨.inl trivial, ?_⟩); refine Fin.o ?_ ?_ (h1 := by first | rfl | (simp only [go_sem, show Try.f37.results.toList = [.tmp 4] from rfl, reduceIte] <;> rfl)); rotate_left 1; (focus (first | rfl | skip)); all_goals try with_reducible rfl)
    all_goals skip
  · rw [decide_eq_false hb, Bool.false_and]
    have hb2 : (Vc.getV h r == s - 1) = false := by simpa using hb
    generalize Vc.getV h r = g at *
    refine SCall.of_body' (TT := TT) (fun _ => false) [false, false] ttok Try.func37 rfl (Nat.le_of_ble_eq_true rfl) rfl fun fx hfx => WK.top ?_
    simp only [impl, imp, argT, List.append_nil, List.map_nil, List.nil_append, show Try.f37.ntmps = 21 from rfl, Nat.zero_add, Nat.reduceAdd]
    have FX := And.intro hw hb2
    repeat' (first | refine WK.seq ?_ | refine WK.reg ?_ | refine IL.nil ?_ | refine WK.drawnS (id := 1) mixed [] [4, 14] [0, 0, 0, 0, 0, 0, 0, 0, 0, 1, 1, 1, 1, 1, 1, 2, 2] [0, 0, 0, 0, 0, 1, 1, 1, 1, 1, 1, 1, 1, 1, 1, 2, 2] (by decide +kernel) ?_ | refine DW.nil ?_ | (with_reducible refine IL.wr ?_ ?_; focus exact cW) | (with_reducible refine DW.wr ?_ ?_; focus exact cW) | refine IL.sgF ttok ?_ | refine DW.reF ttok ?_ | refine DW.rmF ttok ?_ | refine DW.nn ?_ | refine DW.nb ?_ | refine DW.cSF ttok ent61 [.bor, .bor] true ?_ (hS := by exact hcg) | refine DW.cSF ttok ent62 [.bor, .bor] true ?_ (hS := by exact hcc) | (((first | refine DW.ag (fun h => ?_) (fun h => ?_) | refine DW.ap (fun h => ?_) (fun h => ?_)); (fail_if_success (focus (simp only [reduceCtorEq] at h)))); all_goals first | (simp only [reduceCtorEq] at h; done) | (simp only [hsA, hsD, hsE, ne_eq] at h; first | done | (exfalso; omega; done) | skip) | skip))
    all_goals try ((first | refine WK.ret ⟨.inr rfl, ?_⟩ | refine ⟨.inl rfl, ?_⟩ | refine ⟨.inl trivial, ?_⟩); refine Fin.o ?_ ?_ (h1 := by first | rfl | (simp only [go_sem, show Try.f37.results.toList = [.tmp 4] from rfl, reduceIte] <;> rfl)); rotate_left 1; (focus (first | rfl | skip)); all_goals try with_reducible rfl)
    all_goals skip
theorem refReady_call : SCall Try.prog 13 [.agg (enT d r s c u ops), .tr h.length (encs Vc.veC h)] (.v (.bool (decide (Vc.getV h r = s - 1) && Vc.covV h d))) [.agg (enT d r s c u ops), .tr h.length (encs Vc.veC h)] := by
  have hu := And.intro hr hs
  have hrg := Vc.refGet_call h r hh.s (by omega)
  have hrc := Vc.refCovers_call h d hh.s hh.ok hd.ok (by omega) (by omega)
  have hbd := Vc.getV_bd hh.ok r
  have hw : IntKind.u32.wrap (Vc.getV h r + 1) = Vc.getV h r + 1 := wrap_u32 (by omega) (by omega)
  by_cases hb : Vc.getV h r = s - 1
  · have hb2 : (Vc.getV h r + 1 == s) = true := by rw [hb]; simp
    rw [decide_eq_true hb, Bool.true_and]
    generalize Vc.covV h d = B at *
    generalize Vc.getV h r = g at *
    refine SCall.of_body' (TT := TT) (fun _ => false) [false, false] ttok Try.func13 rfl (Nat.le_of_ble_eq_true rfl) rfl fun fx hfx => WK.top ?_
    simp only [impl, imp, argT, List.append_nil, List.map_nil, List.nil_append, show Try.f13.ntmps = 21 from rfl, Nat.zero_add, Nat.reduceAdd]
    have FX := And.intro hw hb2
    repeat' (first | refine WK.seq ?_ | refine WK.reg ?_ | refine IL.nil ?_ | refine WK.drawnS (id := 1) mixed [] [4, 14] [0, 0, 0, 0, 0, 1, 0, 0, 0, 1, 1, 1, 1, 1, 1, 2, 2] [0, 0, 0, 0, 0, 1, 1, 1, 1, 1, 1, 1, 1, 1, 1, 2, 2] (by decide +kernel) ?_ | refine DW.nil ?_ | (with_reducible refine IL.wr ?_ ?_; focus exact cW) | (with_reducible refine DW.wr ?_ ?_; focus exact cW) | refine IL.sgF ttok ?_ | refine DW.reF ttok ?_ | refine DW.rmF ttok ?_ | refine DW.nn ?_ | refine DW.nb ?_ | refine DW.cSF ttok ent21 [.bor, .bor] true ?_ (hS := by exact hrg) | refine DW.cSF ttok ent40 [.bor, .bor] true ?_ (hS := by exact hrc) | (((first | refine DW.ag (fun h => ?_) (fun h => ?_) | refine DW.ap (fun h => ?_) (fun h => ?_)); (fail_if_success (focus (simp only [reduceCtorEq] at h)))); all_goals first | (simp only [reduceCtorEq] at h; done) | (simp only [hsA, hsD, hsE, ne_eq] at h; first | done | (exfalso; omega; done) | skip) | skip))
    all_goals try ((first | refine WK.ret ⟨.inr rfl, ?_⟩ | refine ⟨.inl rfl, ?_⟩ | refine ⟨.inl trivial, ?_⟩); refine Fin.o ?_ ?_ (h1 := by first | rfl | (simp only [go_sem, show Try.f13.results.toList = [.tmp 4] from rfl, reduceIte] <;> rfl)); rotate_left 1; (focus (first | rfl | skip)); all_goals try with_reducible rfl)
    all_goals skip
  · rw [decide_eq_false hb, Bool.false_and]
    have hb2 : (Vc.getV h r + 1 == s) = false := by
      have : ¬ Vc.getV h r + 1 = s := by omega
      simpa using this
    generalize Vc.getV h r = g at *
    refine SCall.of_body' (TT := TT) (fun _ => false) [false, false] ttok Try.func13 rfl (Nat.le_of_ble_eq_true rfl) rfl fun fx hfx => WK.top ?_
    simp only [impl, imp, argT, List.append_nil, List.map_nil, List.nil_append, show Try.f13.ntmps = 21 from rfl, Nat.zero_add, Nat.reduceAdd]
    have FX := And.intro hw hb2
    repeat' (first | refine WK.seq ?_ | refine WK.reg ?_ | refine IL.nil ?_ | refine WK.drawnS (id := 1) mixed [] [4, 14] [0, 0, 0, 0, 0, 1, 0, 0, 0, 1, 1, 1, 1, 1, 1, 2, 2] [0, 0, 0, 0, 0, 1, 1, 1, 1, 1, 1, 1, 1, 1, 1, 2, 2] (by decide +kernel) ?_ | refine DW.nil ?_ | (with_reducible refine IL.wr ?_ ?_; focus exact cW) | (with_reducible refine DW.wr ?_ ?_; focus exact cW) | refine IL.sgF ttok ?_ | refine DW.reF ttok ?_ | refine DW.rmF ttok ?_ | refine DW.nn ?_ | refine DW.nb ?_ | refine DW.cSF ttok ent21 [.bor, .bor] true ?_ (hS := by exact hrg) | refine DW.cSF ttok ent40 [.bor, .bor] true ?_ (hS := by exact hrc) | (((first | refine DW.ag (fun h => ?_) (fun h => ?_) | refine DW.ap (fun h => ?_) (fun h => ?_)); (fail_if_success (focus (simp only [reduceCtorEq] at h)))); all_goals first | (simp only [reduceCtorEq] at h; done) | (simp only [hsA, hsD, hsE, ne_eq] at h; first | done | (exfalso; omega; done) | skip) | skip))
    all_goals try ((first | refine WK.ret ⟨.inr rfl, ?_⟩ | refine ⟨.inl rfl, ?_⟩ | refine ⟨.inl trivial, ?_⟩); refine Fin.o ?_ ?_ (h1 := by first | rfl | (simp only [go_sem, show Try.f13.results.toList = [.tmp 4] from rfl, reduceIte] <;> rfl)); rotate_left 1; (focus (first | rfl | skip)); all_goals try with_reducible rfl)
    all_goals skip
end
theorem envC_eq (e : EnV) : envC e = enT e.d e.r e.s e.c e.u e.ops := rfl
def nmE (e : EnV) : Vc.Ve := (e.r, e.s)
theorem names_call (l : List EnV) (hn : l.length ≤ 1000000) : SCall Try.prog 16 [bufO l] (.own 57 l.length true (encs Vc.veC (l.map nmE))) [bufO l] := by
  refine SCall.of_body' (TT := TT) (fun k => decide (k < 1)) [false] ttok Try.func16 rfl (Nat.le_of_ble_eq_true rfl) rfl fun fx hfx => WK.top ?_
  simp only [impl, imp, argT, List.append_nil, List.map_nil, List.map_cons, List.nil_append, List.cons_append, List.length_cons, List.length_nil, show Try.f16.ntmps = 23 from rfl, Nat.zero_add, Nat.reduceAdd]
  repeat' (first | refine WK.seq ?_ | refine WK.reg ?_ | refine IL.nil ?_ | refine WK.skip ?_ | refine WK.block ?_ | refine WK.exit_here ?_ | refine WK.e1 ?_ | refine WK.e2 ?_ | (with_reducible refine IL.wr ?_ ?_; focus exact cW) | refine IL.sg ttok ?_ | refine IL.cS ttok ent17 [.bor] true ?_ (hS := by exact txId_call _ _ _ _ _) | (refine WK.cn (fun h => ?_) (fun h => ?_); all_goals first | (simp only [reduceCtorEq] at h; done) | (simp only [hsA, hsD, hsE, ne_eq] at h; first | done | (exfalso; omega; done) | skip) | skip))
  refine WK.forS l.length (fun k => True) (fun k => ⟨23, [(0, .ptr 0 0 0), (3, .sl 2 0 0 ((l.take k).map nmE).length), (9, .sl 1 0 0 l.length), (10, .v (.int .i64 l.length)), (11, .v (.int .i64 k))], [some ⟨false, 0, 1, false, [.sl 1 0 0 l.length], 0, false⟩, some ⟨true, 36, l.length, false, encs envC l, 0, false⟩, some ⟨true, 57, ((l.take k).map nmE).length, true, encs Vc.veC ((l.take k).map nmE), 0, false⟩]⟩) ⟨trivial, ?_⟩ (fun k hk ho => ?_) (fun ho => ?_)
  · (refine Weak.renP 1 [0, 1, 3] hfx (fun k h => of_decide_eq_true h) (fun k hk => by obtain rfl : k = 0 := (by omega); exact ⟨rfl, _, rfl, rfl⟩) rfl ?_ ?_ rfl <;> (simp only [go_sem, reduceIte, exists_eq_left', exists_eq_left, Blk.mk.injEq, List.take_zero, List.map_nil, List.length_nil, encs_nil] <;> (try and_intros) <;> first | rfl | omega))
  · have hx : l[k]? = some l[k] := List.getElem?_eq_getElem hk
    have hle : k * 6 + 6 ≤ l.length * 6 := by omega
    have hat : ((encs envC l).drop (k * 6)).take 6 = envC l[k] := encs_at envC_length hx
    have hne : encs envC l ≠ [] := encs_ne envC_length (by decide) hx
    have htl : ((l.take k).map nmE).length = k := by rw [List.length_map, List.length_take]; omega
    have htk1 : l.take (k + 1) = l.take k ++ [l[k]] := by rw [List.take_add_one, hx]; rfl
    have htk : (l.take (k + 1)).map nmE = (l.take k).map nmE ++ [nmE l[k]] := by rw [htk1, List.map_append]; rfl
    have hln : ((l.take (k + 1)).map nmE).length = ((l.take k).map nmE).length + 1 := by rw [htk]; simp
    have hcs : encs Vc.veC ((l.take k).map nmE) ++ [.v (.int .u16 l[k].r), .v (.int .u32 l[k].s)] = encs Vc.veC ((l.take (k + 1)).map nmE) := by rw [htk, ← encs_snoc]; rfl
    rw [envC_eq] at hat
    clear htk htk1 hx
    generalize l[k] = x at *
    have FX := And.intro hat hle
    repeat' (first | refine WK.seq ?_ | refine WK.reg ?_ | refine IL.nil ?_ | refine WK.skip ?_ | refine WK.block ?_ | refine WK.exit_here ?_ | refine WK.e1 ?_ | refine WK.e2 ?_ | (with_reducible refine IL.wr ?_ ?_; focus exact cW) | refine IL.sgF ttok ?_ | refine IL.cSF ttok ent17 [.bor] true ?_ (hS := by exact txId_call _ _ _ _ _) | (refine WK.cn (fun h => ?_) (fun h => ?_); all_goals first | (simp only [reduceCtorEq] at h; done) | (simp only [hsA, hsD, hsE, ne_eq] at h; first | done | (exfalso; omega; done) | skip) | skip))
    refine ⟨trivial, ?_⟩
    (refine Weak.renP 1 [0, 1, 2] hfx (fun k h => of_decide_eq_true h) (fun k hk => by obtain rfl : k = 0 := (by omega); exact ⟨rfl, _, rfl, rfl⟩) rfl ?_ ?_ rfl <;> (simp only [go_sem, reduceIte, exists_eq_left', exists_eq_left, Blk.mk.injEq, hln, hcs] <;> (try and_intros) <;> first | rfl | omega))
  · rw [List.take_length, List.length_map]
    repeat' (first | refine WK.seq ?_ | refine WK.reg ?_ | refine IL.nil ?_ | refine WK.skip ?_ | refine WK.block ?_ | refine WK.exit_here ?_ | refine WK.e1 ?_ | refine WK.e2 ?_ | (with_reducible refine IL.wr ?_ ?_; focus exact cW) | refine IL.sg ttok ?_ | refine IL.cS ttok ent17 [.bor] true ?_ (hS := by exact txId_call _ _ _ _ _) | (refine WK.cn (fun h => ?_) (fun h => ?_); all_goals first | (simp only [reduceCtorEq] at h; done) | (simp only [hsA, hsD, hsE, ne_eq] at h; first | done | (exfalso; omega; done) | skip) | skip))
    all_goals try ((first | refine WK.ret ⟨.inr rfl, ?_⟩ | refine ⟨.inl rfl, ?_⟩ | refine ⟨.inl trivial, ?_⟩); refine Fin.o ?_ ?_ (h1 := by first | rfl | (simp only [go_sem, show Try.f16.results.toList = [.tmp 2] from rfl, reduceIte] <;> rfl)); rotate_left 1; (focus (first | rfl | skip)); all_goals try with_reducible rfl)
    all_goals skip
theorem put_has (l : List EnV) (e : EnV) (hs : SrtE l) (hl : ∀ x ∈ l, nb x) (he : nb e) (hn : l.length ≤ 100000) (hh : hasE l (kE e) = true) :
    SCall Try.prog 9 [bufO l, .agg (envC e)] (.tup [.v (.bool false), .v (.int .i64 0)]) [bufO l, .agg (envC e)] := by
  have hfi := findE_call l e.r e.s hs hl he (by omega)
  rw [show kN e.r e.s = kE e from rfl, hh] at hfi
  rw [envC_eq]
  generalize posE l (kE e) = p at *
  refine SCall.of_body' (TT := TT) (fun k => decide (k < 1)) [false, false] ttok Try.func9 rfl (Nat.le_of_ble_eq_true rfl) rfl fun fx hfx => WK.top ?_
  simp only [impl, imp, argT, List.append_nil, List.map_nil, List.map_cons, List.nil_append, List.cons_append, List.length_cons, List.length_nil, show Try.f9.ntmps = 36 from rfl, Nat.zero_add, Nat.reduceAdd]
  repeat' (first | refine WK.seq ?_ | refine WK.reg ?_ | refine IL.nil ?_ | refine WK.skip ?_ | refine WK.block ?_ | refine WK.drawnS (id := 6) mixed [] [7, 8, 11] [0, 0, 0, 0, 0, 0, 0, 0, 1, 2, 2, 2] [2, 1, 1, 1, 1, 1, 0, 0, 1, 2, 2, 2] (by decide +kernel) ?_ | refine DW.nil ?_ | (with_reducible refine IL.wr ?_ ?_; focus exact cW) | (with_reducible refine DW.wr ?_ ?_; focus exact cW) | refine IL.sg ttok ?_ | refine DW.re ttok ?_ | refine DW.rm ttok ?_ | refine DW.bk ttok ?_ | refine IL.cS ttok ent17 [.bor] true ?_ (hS := by exact txId_call _ _ _ _ _) | refine IL.cS ttok ent35 [.own, .bor] false ?_ (hS := by exact hfi) | refine DW.cS ttok ent36 [.own, .bor, .own] false ?_ (hS := by exact hin) | (refine WK.cn (fun h => ?_) (fun h => ?_); all_goals first | (simp only [reduceCtorEq] at h; done) | (simp only [hsA, hsD, hsE, ne_eq] at h; first | done | (exfalso; omega; done) | skip) | skip))
  all_goals try ((first | refine WK.ret ⟨.inr rfl, ?_⟩ | refine ⟨.inl rfl, ?_⟩ | refine ⟨.inl trivial, ?_⟩); refine Fin.o ?_ ?_ (h1 := by first | rfl | (simp only [go_sem, show Try.f9.results.toList = [.tmp 4, .tmp 5] from rfl, reduceIte] <;> rfl)); rotate_left 1; (focus (first | rfl | skip)); all_goals try with_reducible rfl)
  all_goals skip
theorem put_full (l : List EnV) (e : EnV) (hs : SrtE l) (hl : ∀ x ∈ l, nb x) (he : nb e) (hn : l.length ≤ 100000) (hh : hasE l (kE e) = false) (h64 : 64 ≤ l.length) :
    SCall Try.prog 9 [bufO l, .agg (envC e)] (.tup [.v (.bool false), .v (.int .i64 21)]) [bufO l, .agg (envC e)] := by
  have hfi := findE_call l e.r e.s hs hl he (by omega)
  rw [show kN e.r e.s = kE e from rfl, hh] at hfi
  rw [envC_eq]
  generalize posE l (kE e) = p at *
  refine SCall.of_body' (TT := TT) (fun k => decide (k < 1)) [false, false] ttok Try.func9 rfl (Nat.le_of_ble_eq_true rfl) rfl fun fx hfx => WK.top ?_
  simp only [impl, imp, argT, List.append_nil, List.map_nil, List.map_cons, List.nil_append, List.cons_append, List.length_cons, List.length_nil, show Try.f9.ntmps = 36 from rfl, Nat.zero_add, Nat.reduceAdd]
  repeat' (first | refine WK.seq ?_ | refine WK.reg ?_ | refine IL.nil ?_ | refine WK.skip ?_ | refine WK.block ?_ | refine WK.drawnS (id := 6) mixed [] [7, 8, 11] [0, 0, 0, 0, 0, 0, 0, 0, 1, 2, 2, 2] [2, 1, 1, 1, 1, 1, 0, 0, 1, 2, 2, 2] (by decide +kernel) ?_ | refine DW.nil ?_ | (with_reducible refine IL.wr ?_ ?_; focus exact cW) | (with_reducible refine DW.wr ?_ ?_; focus exact cW) | refine IL.sg ttok ?_ | refine DW.re ttok ?_ | refine DW.rm ttok ?_ | refine DW.bk ttok ?_ | refine IL.cS ttok ent17 [.bor] true ?_ (hS := by exact txId_call _ _ _ _ _) | refine IL.cS ttok ent35 [.own, .bor] false ?_ (hS := by exact hfi) | refine DW.cS ttok ent36 [.own, .bor, .own] false ?_ (hS := by exact hin) | (refine WK.cn (fun h => ?_) (fun h => ?_); all_goals first | (simp only [reduceCtorEq] at h; done) | (simp only [hsA, hsD, hsE, ne_eq] at h; first | done | (exfalso; omega; done) | skip) | skip))
  all_goals try ((first | refine WK.ret ⟨.inr rfl, ?_⟩ | refine ⟨.inl rfl, ?_⟩ | refine ⟨.inl trivial, ?_⟩); refine Fin.o ?_ ?_ (h1 := by first | rfl | (simp only [go_sem, show Try.f9.results.toList = [.tmp 4, .tmp 5] from rfl, reduceIte] <;> rfl)); rotate_left 1; (focus (first | rfl | skip)); all_goals try with_reducible rfl)
  all_goals skip
def putE (l : List EnV) (e : EnV) : List EnV := l.take (posE l (kE e)) ++ ([e] ++ l.drop (posE l (kE e)))
theorem putE_len (l : List EnV) (e : EnV) : (putE l e).length = l.length + 1 := by
  have := posE_le l (kE e)
  unfold putE; simp only [List.length_append, List.length_take, List.length_drop, List.length_singleton]; omega
theorem put_ok (l : List EnV) (e : EnV) (hs : SrtE l) (hl : ∀ x ∈ l, nb x) (he : nb e) (hn : l.length ≤ 100000) (hh : hasE l (kE e) = false) (h64 : l.length < 64) :
    SCall Try.prog 9 [bufO l, .agg (envC e)] (.tup [.v (.bool true), .v (.int .i64 0)]) [bufO (putE l e), .agg (envC e)] := by
  have hfi := findE_call l e.r e.s hs hl he (by omega)
  rw [show kN e.r e.s = kE e from rfl, hh] at hfi
  have hp := posE_le l (kE e)
  have hin := eins_call l e (posE l (kE e)) hp (by omega)
  rw [show l.take (posE l (kE e)) ++ ([e] ++ l.drop (posE l (kE e))) = putE l e from rfl] at hin
  unfold bufO
  rw [putE_len]
  generalize encs envC (putE l e) = Z at *
  rw [envC_eq] at hin
  rw [envC_eq]
  generalize posE l (kE e) = p at *
  refine SCall.of_body' (TT := TT) (fun k => decide (k < 1)) [false, false] ttok Try.func9 rfl (Nat.le_of_ble_eq_true rfl) rfl fun fx hfx => WK.top ?_
  simp only [impl, imp, argT, List.append_nil, List.map_nil, List.map_cons, List.nil_append, List.cons_append, List.length_cons, List.length_nil, show Try.f9.ntmps = 36 from rfl, Nat.zero_add, Nat.reduceAdd]
  repeat' (first | refine WK.seq ?_ | refine WK.reg ?_ | refine IL.nil ?_ | refine WK.skip ?_ | refine WK.block ?_ | refine WK.drawnS (id := 6) mixed [3, 4] [7, 8, 11] [0, 0, 0, 0, 0, 0, 0, 0, 1, 2, 2, 2] [2, 1, 1, 1, 1, 1, 0, 0, 1, 2, 2, 2] (by decide +kernel) ?_ | refine DW.nil ?_ | (with_reducible refine IL.wr ?_ ?_; focus exact cW) | (with_reducible refine DW.wr ?_ ?_; focus exact cW) | refine IL.sg ttok ?_ | refine DW.re ttok ?_ | refine DW.rm ttok ?_ | refine DW.bk ttok ?_ | refine IL.cS ttok ent17 [.bor] true ?_ (hS := by exact txId_call _ _ _ _ _) | refine IL.cS ttok ent35 [.own, .bor] false ?_ (hS := by exact hfi) | refine DW.cS ttok ent36 [.own, .bor, .own] false ?_ (hS := by exact hin) | (refine WK.cn (fun h => ?_) (fun h => ?_); all_goals first | (simp only [reduceCtorEq] at h; done) | (simp only [hsA, hsD, hsE, ne_eq] at h; first | done | (exfalso; omega; done) | skip) | skip))
  all_goals try ((first | refine WK.ret ⟨.inr rfl, ?_⟩ | refine ⟨.inl rfl, ?_⟩ | refine ⟨.inl trivial, ?_⟩); refine Fin.o ?_ ?_ (h1 := by first | rfl | (simp only [go_sem, show Try.f9.results.toList = [.tmp 4, .tmp 5] from rfl, reduceIte] <;> rfl)); rotate_left 1; (focus (first | rfl | skip)); all_goals try with_reducible rfl)
  all_goals skip
def rdyE (v : List Vc.Ve) (e : EnV) : Bool := decide (Vc.getV v e.r = e.s - 1) && Vc.covV v e.d
def okE (e : EnV) : Prop := Vc.Vec e.d ∧ (0 ≤ e.r ∧ e.r ≤ 65535) ∧ (1 ≤ e.s ∧ e.s ≤ 268435456) ∧ e.d.length ≤ 1000
theorem take_none (l : List EnV) (v : List Vc.Ve) (hv : Vc.Vec v) (hvl : v.length ≤ 100000) (hl : ∀ x ∈ l, okE x) (hn : l.length ≤ 100000) (hno : ∀ x ∈ l, rdyE v x = false) :
    SCall Try.prog 11 [bufO l, .tr v.length (encs Vc.veC v)] (.tup [.agg (enL .emp 0 0 0 0 .emp), .v (.bool false)]) [bufO l, .tr v.length (encs Vc.veC v)] := by
  refine SCall.of_body' (TT := TT) (fun k => decide (k < 1)) [false, false] ttok Try.func11 rfl (Nat.le_of_ble_eq_true rfl) rfl fun fx hfx => WK.top ?_
  simp only [impl, imp, argT, List.append_nil, List.map_nil, List.map_cons, List.nil_append, List.cons_append, List.length_cons, List.length_nil, show Try.f11.ntmps = 47 from rfl, Nat.zero_add, Nat.reduceAdd]
  repeat' (first | refine WK.seq ?_ | refine WK.reg ?_ | refine IL.nil ?_ | refine WK.skip ?_ | (with_reducible refine IL.wr ?_ ?_; focus exact cW) | refine IL.sg ttok ?_ | refine IL.cS ttok ent37 [.bor, .bor] true ?_ (hS := by exact hrd) | refine IL.cS ttok ent38 [.own, .bor, .bor] false ?_ (hS := by exact hde) | (refine WK.cn (fun h => ?_) (fun h => ?_); all_goals first | (simp only [reduceCtorEq] at h; done) | (simp only [hsA, hsD, hsE, ne_eq] at h; first | done | (exfalso; omega; done) | skip) | skip))
  refine WK.gotoL (α := Nat) 0 (rest := _) rfl (fun x => l.length - x) (fun x => x ≤ l.length) (fun x => ⟨47, [(0, .ptr 0 0 0), (1, .tr v.length (encs Vc.veC v)), (4, .ptr 4 0 0), (5, .v (.bool false)), (6, .v (.int .i64 x))], [some ⟨false, 0, 1, false, [.sl 1 0 0 l.length], 0, false⟩, some ⟨true, 36, l.length, false, encs envC l, 0, false⟩, some ⟨true, 109, 0, false, [], 0, false⟩, some ⟨true, 89, 0, true, [], 0, false⟩, some ⟨false, 36, 1, false, enL (.sl 3 0 0 0) 0 0 0 0 (.sl 2 0 0 0), 0, false⟩]⟩) ?_ ?_
  · intro k hk
    rcases Nat.eq_or_lt_of_le hk with rfl | hk
    · repeat' (first | refine WK.seq ?_ | refine WK.reg ?_ | refine IL.nil ?_ | refine WK.skip ?_ | (with_reducible refine IL.wr ?_ ?_; focus exact cW) | refine IL.sg ttok ?_ | refine IL.cS ttok ent37 [.bor, .bor] true ?_ (hS := by exact hrd) | refine IL.cS ttok ent38 [.own, .bor, .bor] false ?_ (hS := by exact hde) | (refine WK.cn (fun h => ?_) (fun h => ?_); all_goals first | (simp only [reduceCtorEq] at h; done) | (simp only [hsA, hsD, hsE, ne_eq] at h; first | done | (exfalso; omega; done) | skip) | skip))
      all_goals try ((first | refine WK.ret ⟨.inr rfl, ?_⟩ | refine ⟨.inl rfl, ?_⟩ | refine ⟨.inl trivial, ?_⟩); refine Fin.o ?_ ?_ (h1 := by first | rfl | (simp only [go_sem, show Try.f11.results.toList = [.cell 4 36, .tmp 5] from rfl, reduceIte] <;> rfl)); rotate_left 1; (focus (first | rfl | skip)); all_goals try with_reducible rfl)
      all_goals first | rfl | skip
    · have hx : l[k]? = some l[k] := List.getElem?_eq_getElem hk
      have hle : k * 6 + 6 ≤ l.length * 6 := by omega
      have hat : ((encs envC l).drop (k * 6)).take 6 = envC l[k] := encs_at envC_length hx
      have hne : encs envC l ≠ [] := encs_ne envC_length (by decide) hx
      have ho := hl _ (List.getElem_mem hk)
      have hrd := ready_call l[k].d v l[k].r l[k].s l[k].c l[k].u l[k].ops ho.1 hv ho.2.1 ho.2.2.1 ho.2.2.2 hvl
      have hr0 := hno _ (List.getElem_mem hk)
      unfold rdyE at hr0
      rw [hr0] at hrd
      rw [envC_eq] at hat
      clear hr0 ho hx
      generalize l[k] = x at *
      have FX := And.intro hat hle
      repeat' (first | refine WK.seq ?_ | refine WK.reg ?_ | refine IL.nil ?_ | refine WK.skip ?_ | (with_reducible refine IL.wr ?_ ?_; focus exact cW) | refine IL.sgF ttok ?_ | refine IL.cSF ttok ent37 [.bor, .bor] true ?_ (hS := by exact hrd) | refine IL.cSF ttok ent38 [.own, .bor, .bor] false ?_ (hS := by exact hde) | (refine WK.cn (fun h => ?_) (fun h => ?_); all_goals first | (simp only [reduceCtorEq] at h; done) | (simp only [hsA, hsD, hsE, ne_eq] at h; first | done | (exfalso; omega; done) | skip) | skip))
      refine WK.goto ⟨rfl, k + 1, by omega, by omega, ?_⟩
      (refine Weak.cut' rfl rfl ?_; exact cA)
  · intro again
    repeat' (first | refine WK.seq ?_ | refine WK.reg ?_ | refine IL.nil ?_ | refine WK.skip ?_ | (with_reducible refine IL.wr ?_ ?_; focus exact cW) | refine IL.sg ttok ?_ | refine IL.cS ttok ent37 [.bor, .bor] true ?_ (hS := by exact hrd) | refine IL.cS ttok ent38 [.own, .bor, .bor] false ?_ (hS := by exact hde) | (refine WK.cn (fun h => ?_) (fun h => ?_); all_goals first | (simp only [reduceCtorEq] at h; done) | (simp only [hsA, hsD, hsE, ne_eq] at h; first | done | (exfalso; omega; done) | skip) | skip))
    refine WK.label ?_
    refine again _ 0 (Nat.zero_le _) ?_
    (refine Weak.cut' rfl rfl ?_; exact cA)
theorem take_some (l : List EnV) (v : List Vc.Ve) (hv : Vc.Vec v) (hvl : v.length ≤ 100000) (hl : ∀ x ∈ l, okE x) (hn : l.length ≤ 100000) (K : Nat) (e : EnV) (hK : l[K]? = some e) (hre : rdyE v e = true) (hno : ∀ j x, j < K → l[j]? = some x → rdyE v x = false) :
    SCall Try.prog 11 [bufO l, .tr v.length (encs Vc.veC v)] (.tup [.agg (envC e), .v (.bool true)]) [bufO (l.take K ++ l.drop (K + 1)), .tr v.length (encs Vc.veC v)] := by
  have hKl : K < l.length := (List.getElem?_eq_some_iff.1 hK).1
  have hde := edel_call l K hKl (by omega)
  have hdl : (l.take K ++ l.drop (K + 1)).length = K + (l.length - (K + 1)) := by simp only [List.length_append, List.length_take, List.length_drop]; omega
  unfold bufO
  rw [hdl]
  generalize encs envC (l.take K ++ l.drop (K + 1)) = Z at *
  refine SCall.of_body' (TT := TT) (fun k => decide (k < 1)) [false, false] ttok Try.func11 rfl (Nat.le_of_ble_eq_true rfl) rfl fun fx hfx => WK.top ?_
  simp only [impl, imp, argT, List.append_nil, List.map_nil, List.map_cons, List.nil_append, List.cons_append, List.length_cons, List.length_nil, show Try.f11.ntmps = 47 from rfl, Nat.zero_add, Nat.reduceAdd]
  repeat' (first | refine WK.seq ?_ | refine WK.reg ?_ | refine IL.nil ?_ | refine WK.skip ?_ | (with_reducible refine IL.wr ?_ ?_; focus exact cW) | refine IL.sg ttok ?_ | refine IL.cS ttok ent37 [.bor, .bor] true ?_ (hS := by exact hrd) | refine IL.cS ttok ent38 [.own, .bor, .bor] false ?_ (hS := by exact hde) | (refine WK.cn (fun h => ?_) (fun h => ?_); all_goals first | (simp only [reduceCtorEq] at h; done) | (simp only [hsA, hsD, hsE, ne_eq] at h; first | done | (exfalso; omega; done) | skip) | skip))
  refine WK.gotoL (α := Nat) 0 (rest := _) rfl (fun x => l.length - x) (fun x => x ≤ K) (fun x => ⟨47, [(0, .ptr 0 0 0), (1, .tr v.length (encs Vc.veC v)), (4, .ptr 4 0 0), (5, .v (.bool false)), (6, .v (.int .i64 x))], [some ⟨false, 0, 1, false, [.sl 1 0 0 l.length], 0, false⟩, some ⟨true, 36, l.length, false, encs envC l, 0, false⟩, some ⟨true, 109, 0, false, [], 0, false⟩, some ⟨true, 89, 0, true, [], 0, false⟩, some ⟨false, 36, 1, false, enL (.sl 3 0 0 0) 0 0 0 0 (.sl 2 0 0 0), 0, false⟩]⟩) ?_ ?_
  · intro k hk
    have hkl : k < l.length := by omega
    have hx : l[k]? = some l[k] := List.getElem?_eq_getElem hkl
    have hle : k * 6 + 6 ≤ l.length * 6 := by omega
    have hat : ((encs envC l).drop (k * 6)).take 6 = envC l[k] := encs_at envC_length hx
    have hne : encs envC l ≠ [] := encs_ne envC_length (by decide) hx
    have ho := hl _ (List.getElem_mem hkl)
    have hrd := ready_call l[k].d v l[k].r l[k].s l[k].c l[k].u l[k].ops ho.1 hv ho.2.1 ho.2.2.1 ho.2.2.2 hvl
    rw [envC_eq] at hat
    rw [envC_eq]
    rcases Nat.eq_or_lt_of_le hk with rfl | hk
    · obtain rfl : l[k] = e := Option.some.inj (hx.symm.trans hK)
      unfold rdyE at hre
      rw [hre] at hrd
      clear hre ho hx hK hno
      generalize l[k] = x at *
      have FX := And.intro hat hle
      repeat' (first | refine WK.seq ?_ | refine WK.reg ?_ | refine IL.nil ?_ | refine WK.skip ?_ | (with_reducible refine IL.wr ?_ ?_; focus exact cW) | refine IL.sgF ttok ?_ | refine IL.cSF ttok ent37 [.bor, .bor] true ?_ (hS := by exact hrd) | refine IL.cSF ttok ent38 [.own, .bor, .bor] false ?_ (hS := by exact hde) | (refine WK.cn (fun h => ?_) (fun h => ?_); all_goals first | (simp only [reduceCtorEq] at h; done) | (simp only [hsA, hsD, hsE, ne_eq] at h; first | done | (exfalso; omega; done) | skip) | skip))
      all_goals try ((first | refine WK.ret ⟨.inr rfl, ?_⟩ | refine ⟨.inl rfl, ?_⟩ | refine ⟨.inl trivial, ?_⟩); refine Fin.o ?_ ?_ (h1 := by first | rfl | (simp only [go_sem, show Try.f11.results.toList = [.cell 4 36, .tmp 5] from rfl, reduceIte] <;> rfl)); rotate_left 1; (focus (first | rfl | skip)); all_goals try with_reducible rfl)
      all_goals first | rfl | skip
    · have hr0 := hno k _ hk hx
      unfold rdyE at hr0
      rw [hr0] at hrd
      clear hr0 ho hx
      generalize l[k] = x at *
      have FX := And.intro hat hle
      repeat' (first | refine WK.seq ?_ | refine WK.reg ?_ | refine IL.nil ?_ | refine WK.skip ?_ | (with_reducible refine IL.wr ?_ ?_; focus exact cW) | refine IL.sgF ttok ?_ | refine IL.cSF ttok ent37 [.bor, .bor] true ?_ (hS := by exact hrd) | refine IL.cSF ttok ent38 [.own, .bor, .bor] false ?_ (hS := by exact hde) | (refine WK.cn (fun h => ?_) (fun h => ?_); all_goals first | (simp only [reduceCtorEq] at h; done) | (simp only [hsA, hsD, hsE, ne_eq] at h; first | done | (exfalso; omega; done) | skip) | skip))
      refine WK.goto ⟨rfl, k + 1, by omega, by omega, ?_⟩
      (refine Weak.cut' rfl rfl ?_; exact cA)
  · intro again
    repeat' (first | refine WK.seq ?_ | refine WK.reg ?_ | refine IL.nil ?_ | refine WK.skip ?_ | (with_reducible refine IL.wr ?_ ?_; focus exact cW) | refine IL.sg ttok ?_ | refine IL.cS ttok ent37 [.bor, .bor] true ?_ (hS := by exact hrd) | refine IL.cS ttok ent38 [.own, .bor, .bor] false ?_ (hS := by exact hde) | (refine WK.cn (fun h => ?_) (fun h => ?_); all_goals first | (simp only [reduceCtorEq] at h; done) | (simp only [hsA, hsD, hsE, ne_eq] at h; first | done | (exfalso; omega; done) | skip) | skip))
    refine WK.label ?_
    refine again _ 0 (Nat.zero_le _) ?_
    (refine Weak.cut' rfl rfl ?_; exact cA)
end Go.Proofs.Ytclhjcbnpdlgbaa
/- package vector: Join. -/
namespace Go.Proofs.Ytclhjcbnpdlgbaa.Vc
open Go Go.Lift
set_option maxHeartbeats 4000000
set_option linter.unusedSimpArgs false
set_option linter.unusedVariables false
attribute [local irreducible] WK IL IP IG IW DW

theorem srt_idx {l : List Ve} (hs : Srt l) (h0 : ∀ x ∈ l, 0 ≤ x.1) : ∀ (k : Nat) (x : Ve), l[k]? = some x → (k : Int) ≤ x.1
  | 0, x, hx => by have := h0 x (List.mem_of_getElem? hx); omega
  | k + 1, x, hx => by
    have hk : k < l.length := by have := (List.getElem?_eq_some_iff.1 hx).1; omega
    have hy : l[k]? = some l[k] := List.getElem?_eq_getElem hk
    have := srt_idx hs h0 k _ hy
    have := srt_lt hs (Nat.lt_succ_self k) hy hx
    omega
theorem Vec.len {l : List Ve} (h : Vec l) : l.length ≤ 65536 := by
  rcases Nat.eq_zero_or_pos l.length with h0 | h0
  · omega
  · have hx : l[l.length - 1]? = some l[l.length - 1] := List.getElem?_eq_getElem (by omega)
    have h1 := srt_idx h.s (fun x hx => (h.b x hx).1.1) _ _ hx
    have h2 := (h.b _ (List.getElem_mem (show l.length - 1 < l.length by omega))).1.2
    omega
def vrC (w : List Ve) : List IV := [.tr w.length (encs veC w)]
theorem vrC_length (w : List Ve) : (vrC w).length = 1 := rfl
instance : CellsT vrC 1 := ⟨fun _ => rfl, fun _ => rfl⟩
def joinM (v : List Ve) (ws : List (List Ve)) : List Ve := ws.foldl joinV v
theorem joinM_snoc (v : List Ve) (ws : List (List Ve)) (w : List Ve) : joinM v (ws ++ [w]) = joinV (joinM v ws) w := by unfold joinM; rw [List.foldl_append]; rfl
theorem joinM_vec : ∀ {ws : List (List Ve)} {v : List Ve}, Vec v → (∀ w ∈ ws, Vec w) → Vec (joinM v ws)
  | [], v, h, _ => h
  | w :: ws, v, h, hw => joinM_vec (ws := ws) (join_vec h (hw w (by simp))) fun u hu => hw u (by simp [hu])
theorem join_call (v : List Ve) (ws : List (List Ve)) (hv : Vec v) (hws : ∀ w ∈ ws, Vec w) (hn : ws.length ≤ 1000000) :
    SCall Try.prog 45 [.tr v.length (encs veC v), .tr ws.length (encs vrC ws)] (.own 89 (joinM v ws).length true (encs veC (joinM v ws))) [.tr v.length (encs veC v), .tr ws.length (encs vrC ws)] := by
  have hvl := hv.len
  have hcl := clone_any v (by omega)
  refine SCallG.toS ?_
  refine SCallG.of_body' (G := []) (TT := TT) (fun _ => false) [false, false] ttok Try.func45 rfl (Nat.le_of_ble_eq_true rfl) rfl fun fx hfx hgf => WK.top ?_
  simp only [impl, imp, argT, List.append_nil, List.map_nil, List.nil_append, show Try.f45.ntmps = 40 from rfl, Nat.zero_add, Nat.reduceAdd]
  repeat' (first | refine WK.seq ?_ | refine WK.reg ?_ | refine IL.nil ?_ | refine WK.skip ?_ | refine WK.block ?_ | refine WK.exit_here ?_ | refine WK.e1 ?_ | refine WK.e2 ?_ | refine WK.drawnS (id := 8) mixed [] [5] [0, 0, 0, 0, 0, 0, 1] [1, 1, 0, 0, 0, 0, 1] (by decide +kernel) ?_ | refine DW.nil ?_ | (with_reducible refine IL.wr ?_ ?_; focus exact cW) | (with_reducible refine DW.wr ?_ ?_; focus exact cW) | refine IL.sg ttok ?_ | refine DW.re ttok ?_ | refine DW.rm ttok ?_ | refine IL.cS ttok ent15 [.bor, .bor, .bor] true ?_ (hS := by exact hwi) | refine IL.cS ttok ent41 [.bor] true ?_ (hS := by exact hcl) | refine DW.cS ttok ent61 [.bor, .bor] true ?_ (hS := by exact hge) | (refine WK.cn (fun h => ?_) (fun h => ?_); all_goals first | (simp only [reduceCtorEq] at h; done) | (simp only [hsA, hsD, hsE, ne_eq] at h; first | done | (exfalso; omega; done) | skip) | skip))
  refine WK.forS ws.length (fun k => True) (fun k => ⟨40, [(5, .sl 0 0 0 (joinM v (ws.take k)).length), (12, .tr ws.length (encs vrC ws)), (13, .v (.int .i64 ws.length)), (14, .v (.int .i64 k))], [some ⟨true, 89, (joinM v (ws.take k)).length, true, encs veC (joinM v (ws.take k)), 0, false⟩]⟩) ⟨trivial, ?_⟩ (fun k hk ho => ?_) (fun ho => ?_)
  · (refine Weak.renS [1] hfx rfl ?_ ?_ rfl <;> (simp only [go_sem, reduceIte, exists_eq_left', exists_eq_left, Blk.mk.injEq, List.take_zero, joinM, List.foldl_nil] <;> (try and_intros) <;> first | rfl | omega))
  · have hw : ws[k]? = some ws[k] := List.getElem?_eq_getElem hk
    have htk : ws.take (k + 1) = ws.take k ++ [ws[k]] := by rw [List.take_add_one, hw]; rfl
    have ho : Vec (joinM v (ws.take k)) := joinM_vec hv fun w hw => hws w (List.mem_of_mem_take hw)
    have hvw := hws _ (List.getElem_mem hk)
    have hatw : (encs vrC ws)[k * 1 + 0]? = some (.tr ws[k].length (encs veC ws[k])) := encs_get vrC_length hw (by decide)
    rw [Nat.mul_one, Nat.add_zero] at hatw
    have hle : k * 1 + 1 ≤ ws.length * 1 := by omega
    have hne : encs vrC ws ≠ [] := encs_ne vrC_length (by decide) hw
    rw [htk, joinM_snoc]
    clear htk hw
    generalize ws[k] = w at *
    generalize joinM v (ws.take k) = out at *
    have hwl := hvw.len
    have FX := And.intro hatw hle
    repeat' (first | refine WK.seq ?_ | refine WK.reg ?_ | refine IL.nil ?_ | refine WK.skip ?_ | refine WK.block ?_ | refine WK.exit_here ?_ | refine WK.e1 ?_ | refine WK.e2 ?_ | refine WK.drawnS (id := 8) mixed [] [5] [0, 0, 0, 0, 0, 0, 1] [1, 1, 0, 0, 0, 0, 1] (by decide +kernel) ?_ | refine DW.nil ?_ | (with_reducible refine IL.wr ?_ ?_; focus exact cW) | (with_reducible refine DW.wr ?_ ?_; focus exact cW) | refine IL.sgF ttok ?_ | refine DW.reF ttok ?_ | refine DW.rmF ttok ?_ | refine IL.cSF ttok ent15 [.bor, .bor, .bor] true ?_ (hS := by exact hwi) | refine IL.cSF ttok ent41 [.bor] true ?_ (hS := by exact hcl) | refine DW.cSF ttok ent61 [.bor, .bor] true ?_ (hS := by exact hge) | (refine WK.cn (fun h => ?_) (fun h => ?_); all_goals first | (simp only [reduceCtorEq] at h; done) | (simp only [hsA, hsD, hsE, ne_eq] at h; first | done | (exfalso; omega; done) | skip) | skip))
    refine WK.forS w.length (fun j => True) (fun j => ⟨40, [(5, .sl 0 0 0 (joinV out (w.take j)).length), (12, .tr ws.length (encs vrC ws)), (13, .v (.int .i64 ws.length)), (14, .v (.int .i64 k)), (18, .tr w.length (encs veC w)), (19, .v (.int .i64 w.length)), (20, .v (.int .i64 j))], [some ⟨true, 89, (joinV out (w.take j)).length, true, encs veC (joinV out (w.take j)), 0, false⟩]⟩) ⟨trivial, ?_⟩ (fun j hj hj0 => ?_) (fun hj0 => ?_)
    · (refine Weak.renS [0] hfx rfl ?_ ?_ rfl <;> (simp only [go_sem, reduceIte, exists_eq_left', exists_eq_left, Blk.mk.injEq, List.take_zero, joinV, List.foldl_nil] <;> (try and_intros) <;> first | rfl | omega))
    · have hx : w[j]? = some w[j] := List.getElem?_eq_getElem hj
      have htj : w.take (j + 1) = w.take j ++ [w[j]] := by rw [List.take_add_one, hx]; rfl
      have hat : ((encs veC w).drop (j * 2)).take 2 = [.v (.int .u16 w[j].1), .v (.int .u32 w[j].2)] := encs_at veC_length hx
      have hlj : j * 2 + 2 ≤ w.length * 2 := by omega
      have hnw : encs veC w ≠ [] := encs_ne veC_length (by decide) hx
      have hxb := hvw.b _ (List.getElem_mem hj)
      have ho2 : Vec (joinV out (w.take j)) := (joinV_vec ho fun x hx => hvw.b x (List.mem_of_mem_take hx)).1
      rw [htj, joinV_snoc]
      clear htj hx
      generalize w[j] = x at *
      generalize joinV out (w.take j) = o2 at *
      have hol := ho2.len
      have hge := get_call o2 x.1 ho2.s ho2.ok.r hxb.1 (by omega)
      have hwi := with_call o2 x.1 x.2 ho2 hxb.1 (by omega) (by omega)
      unfold addV
      generalize getV o2 x.1 = g at *
      generalize withV o2 x.1 x.2 = o3 at *
      have FX := And.intro hat hlj
      repeat' (first | refine WK.seq ?_ | refine WK.reg ?_ | refine IL.nil ?_ | refine WK.skip ?_ | refine WK.block ?_ | refine WK.exit_here ?_ | refine WK.e1 ?_ | refine WK.e2 ?_ | refine WK.drawnS (id := 8) mixed [] [5] [0, 0, 0, 0, 0, 0, 1] [1, 1, 0, 0, 0, 0, 1] (by decide +kernel) ?_ | refine DW.nil ?_ | (with_reducible refine IL.wr ?_ ?_; focus exact cW) | (with_reducible refine DW.wr ?_ ?_; focus exact cW) | refine IL.sgF ttok ?_ | refine DW.reF ttok ?_ | refine DW.rmF ttok ?_ | refine IL.cSF ttok ent15 [.bor, .bor, .bor] true ?_ (hS := by exact hwi) | refine IL.cSF ttok ent41 [.bor] true ?_ (hS := by exact hcl) | refine DW.cSF ttok ent61 [.bor, .bor] true ?_ (hS := by exact hge) | (refine WK.cn (fun h => ?_) (fun h => ?_); all_goals first | (simp only [reduceCtorEq] at h; done) | (simp only [hsA, hsD, hsE, ne_eq] at h; first | done | (exfalso; omega; done) | skip) | skip))
      · rw [if_pos h]
        refine ⟨trivial, ?_⟩
        (refine Weak.renS [2] hfx rfl ?_ ?_ rfl <;> (simp only [go_sem, reduceIte, exists_eq_left', exists_eq_left, Blk.mk.injEq] <;> (try and_intros) <;> first | rfl | omega))
      · rw [if_neg (by omega)]
        refine ⟨trivial, ?_⟩
        (refine Weak.renS [0] hfx rfl ?_ ?_ rfl <;> (simp only [go_sem, reduceIte, exists_eq_left', exists_eq_left, Blk.mk.injEq] <;> (try and_intros) <;> first | rfl | omega))
    · rw [List.take_length]
      repeat' (first | refine WK.seq ?_ | refine WK.reg ?_ | refine IL.nil ?_ | refine WK.skip ?_ | refine WK.block ?_ | refine WK.exit_here ?_ | refine WK.e1 ?_ | refine WK.e2 ?_ | refine WK.drawnS (id := 8) mixed [] [5] [0, 0, 0, 0, 0, 0, 1] [1, 1, 0, 0, 0, 0, 1] (by decide +kernel) ?_ | refine DW.nil ?_ | (with_reducible refine IL.wr ?_ ?_; focus exact cW) | (with_reducible refine DW.wr ?_ ?_; focus exact cW) | refine IL.sg ttok ?_ | refine DW.re ttok ?_ | refine DW.rm ttok ?_ | refine IL.cS ttok ent15 [.bor, .bor, .bor] true ?_ (hS := by exact hwi) | refine IL.cS ttok ent41 [.bor] true ?_ (hS := by exact hcl) | refine DW.cS ttok ent61 [.bor, .bor] true ?_ (hS := by exact hge) | (refine WK.cn (fun h => ?_) (fun h => ?_); all_goals first | (simp only [reduceCtorEq] at h; done) | (simp only [hsA, hsD, hsE, ne_eq] at h; first | done | (exfalso; omega; done) | skip) | skip))
      refine ⟨trivial, ?_⟩
      (refine Weak.renS [0] hfx rfl ?_ ?_ rfl <;> (simp only [go_sem, reduceIte, exists_eq_left', exists_eq_left, Blk.mk.injEq] <;> (try and_intros) <;> first | rfl | omega))
  · rw [List.take_length]
    repeat' (first | refine WK.seq ?_ | refine WK.reg ?_ | refine IL.nil ?_ | refine WK.skip ?_ | refine WK.block ?_ | refine WK.exit_here ?_ | refine WK.e1 ?_ | refine WK.e2 ?_ | refine WK.drawnS (id := 8) mixed [] [5] [0, 0, 0, 0, 0, 0, 1] [1, 1, 0, 0, 0, 0, 1] (by decide +kernel) ?_ | refine DW.nil ?_ | (with_reducible refine IL.wr ?_ ?_; focus exact cW) | (with_reducible refine DW.wr ?_ ?_; focus exact cW) | refine IL.sg ttok ?_ | refine DW.re ttok ?_ | refine DW.rm ttok ?_ | refine IL.cS ttok ent15 [.bor, .bor, .bor] true ?_ (hS := by exact hwi) | refine IL.cS ttok ent41 [.bor] true ?_ (hS := by exact hcl) | refine DW.cS ttok ent61 [.bor, .bor] true ?_ (hS := by exact hge) | (refine WK.cn (fun h => ?_) (fun h => ?_); all_goals first | (simp only [reduceCtorEq] at h; done) | (simp only [hsA, hsD, hsE, ne_eq] at h; first | done | (exfalso; omega; done) | skip) | skip))
    all_goals try ((first | refine WK.ret ⟨.inr rfl, ?_⟩ | refine ⟨.inl rfl, ?_⟩ | refine ⟨.inl trivial, ?_⟩); refine Fin.o ?_ ?_ (h1 := by first | rfl | (simp only [go_sem, show Try.f45.results.toList = [.tmp 4] from rfl, reduceIte] <;> rfl)); rotate_left 1; (focus (first | rfl | skip)); all_goals try with_reducible rfl)
    all_goals skip
end Go.Proofs.Ytclhjcbnpdlgbaa.Vc
/- package hold: Wants. -/
namespace Go.Proofs.Ytclhjcbnpdlgbaa
open Go Go.Lift
set_option maxHeartbeats 4000000
set_option linter.unusedSimpArgs false
set_option linter.unusedVariables false
attribute [local irreducible] WK IL IP IG IW DW

def needV (a : List Vc.Ve) (e : EnV) : List Vc.Ve := Vc.joinM a [e.d, Vc.withV [] e.r (e.s - 1)]
def wantV (l : List EnV) : List Vc.Ve := l.foldl needV []
theorem wantV_snoc (l : List EnV) (e : EnV) : wantV (l ++ [e]) = needV (wantV l) e := by unfold wantV; rw [List.foldl_append]; rfl
theorem vec_nil : Vc.Vec [] := ⟨List.Pairwise.nil, by simp⟩
theorem needV_vec {a : List Vc.Ve} {e : EnV} (ha : Vc.Vec a) (he : okE e) : Vc.Vec (needV a e) := by
  refine Vc.joinM_vec ha fun w hw => ?_
  simp only [List.mem_cons, List.not_mem_nil, or_false] at hw
  rcases hw with rfl | rfl
  · exact he.1
  · exact Vc.withV_vec vec_nil he.2.1 (by have := he.2.2.1; omega)
theorem wantV_vec : ∀ (l : List EnV), (∀ x ∈ l, okE x) → Vc.Vec (wantV l) := by
  have key : ∀ (l : List EnV) (a : List Vc.Ve), Vc.Vec a → (∀ x ∈ l, okE x) → Vc.Vec (l.foldl needV a) := by
    intro l
    induction l with
    | nil => intro a ha _; exact ha
    | cons e l ih => intro a ha hl; exact ih _ (needV_vec ha (hl e (by simp))) fun x hx => hl x (by simp [hx])
  exact fun l hl => key l [] vec_nil hl
theorem wants_call (l : List EnV) (v : List Vc.Ve) (hv : Vc.Vec v) (hvl : v.length ≤ 100000) (hl : ∀ x ∈ l, okE x) (hn : l.length ≤ 100000) :
    SCall Try.prog 20 [bufO l, .tr v.length (encs Vc.veC v)] (.own 65 (Vc.lackV v (wantV l)).length true (encs Vc.gpC (Vc.lackV v (wantV l)))) [bufO l, .tr v.length (encs Vc.veC v)] := by
  refine SCall.of_body' (TT := TT) (fun k => decide (k < 1)) [false, false] ttok Try.func20 rfl (Nat.le_of_ble_eq_true rfl) rfl fun fx hfx => WK.top ?_
  simp only [impl, imp, argT, List.append_nil, List.map_nil, List.map_cons, List.nil_append, List.cons_append, List.length_cons, List.length_nil, show Try.f20.ntmps = 34 from rfl, Nat.zero_add, Nat.reduceAdd]
  repeat' (first | refine WK.seq ?_ | refine WK.reg ?_ | refine IL.nil ?_ | refine WK.skip ?_ | refine WK.block ?_ | refine WK.exit_here ?_ | refine WK.e1 ?_ | refine WK.e2 ?_ | refine WK.drawnS (id := 5) mixed [] [10, 12] [0, 0, 0, 0, 0, 0, 0, 0, 0, 0, 0, 1, 1, 2] [1, 1, 1, 0, 0, 0, 0, 0, 0, 0, 0, 1, 1, 2] (by decide +kernel) ?_ | refine DW.nil ?_ | (with_reducible refine IL.wr ?_ ?_; focus exact cW) | (with_reducible refine DW.wr ?_ ?_; focus exact cW) | refine IL.sg ttok ?_ | refine DW.re ttok ?_ | refine DW.rm ttok ?_ | (refine DW.bst (T' := ?_) ttok rfl ?_ (fun K hK => ?_) ?_ ?_; rotate_left 1; (focus exact cG); (focus (simp only [go_sem, reduceIte]; exact cK hK)); (focus (first | exact ⟨_, rfl⟩ | rfl))) | refine DW.cS ttok ent15 [.bor, .bor, .bor] false ?_ (hS := by exact hwi) | refine DW.cS ttok ent45 [.bor, .bor] false ?_ (hS := by exact hjo) | refine IL.cS ttok ent46 [.bor, .bor] true ?_ (hS := by exact hla) | (refine WK.cn (fun h => ?_) (fun h => ?_); all_goals first | (simp only [reduceCtorEq] at h; done) | (simp only [hsA, hsD, hsE, ne_eq] at h; first | done | (exfalso; omega; done) | skip) | skip))
  refine WK.freeze (σ' := ?_) ttok 3 rfl rfl rfl ?_ ?_; rotate_left 1
  · simp only [go_sem, List.set_cons_zero, List.set_cons_succ]; rfl
  refine WK.forS l.length (fun k => True) (fun k => ⟨34, [(0, .ptr 0 0 0), (1, .tr v.length (encs Vc.veC v)), (5, .tr (wantV (l.take k)).length (encs Vc.veC (wantV (l.take k)))), (11, .sl 1 0 0 l.length), (12, .v (.int .i64 l.length)), (13, .v (.int .i64 k))], [some ⟨false, 0, 1, false, [.sl 1 0 0 l.length], 0, false⟩, some ⟨true, 36, l.length, false, encs envC l, 0, false⟩]⟩) ⟨trivial, ?_⟩ (fun k hk ho => ?_) (fun ho => ?_)
  · rw [List.take_zero, show wantV [] = [] from rfl]
    (refine Weak.renP 1 [0, 1] hfx (fun k h => of_decide_eq_true h) (fun k hk => by obtain rfl : k = 0 := (by omega); exact ⟨rfl, _, rfl, rfl⟩) rfl ?_ ?_ rfl <;> (simp only [go_sem, reduceIte, exists_eq_left', exists_eq_left, Blk.mk.injEq] <;> (try and_intros) <;> first | rfl | omega))
  · have hx : l[k]? = some l[k] := List.getElem?_eq_getElem hk
    have hle : k * 6 + 6 ≤ l.length * 6 := by omega
    have hat : ((encs envC l).drop (k * 6)).take 6 = envC l[k] := encs_at envC_length hx
    have hne : encs envC l ≠ [] := encs_ne envC_length (by decide) hx
    have htk : l.take (k + 1) = l.take k ++ [l[k]] := by rw [List.take_add_one, hx]; rfl
    have hok := hl _ (List.getElem_mem hk)
    have hwv := wantV_vec (l.take k) fun x hx => hl x (List.mem_of_mem_take hx)
    rw [htk, wantV_snoc]
    unfold needV
    rw [envC_eq] at hat
    clear htk hx
    generalize l[k] = e at *
    generalize wantV (l.take k) = a at *
    have hs1 := hok.2.2.1
    have hw1 : IntKind.u32.wrap (e.s - 1) = e.s - 1 := wrap_u32 (by omega) (by omega)
    have hwi := SCall.frz (Vc.with_call [] e.r (e.s - 1) vec_nil hok.2.1 (by omega) (by simp)) rfl
    have hwv2 := Vc.withV_vec vec_nil hok.2.1 (q := e.s - 1) (by omega)
    simp only [frzR] at hwi
    generalize Vc.withV [] e.r (e.s - 1) = y at *
    have hjo := SCall.frz (Vc.join_call a [e.d, y] hwv (fun w hw => by
      simp only [List.mem_cons, List.not_mem_nil, or_false] at hw
      rcases hw with rfl | rfl
      · exact hok.1
      · exact hwv2) (by simp)) rfl
    simp only [frzR] at hjo
    generalize Vc.joinM a [e.d, y] = z at *
    have FX := And.intro hat (And.intro hle hw1)
    repeat' (first | refine WK.seq ?_ | refine WK.reg ?_ | refine IL.nil ?_ | refine WK.skip ?_ | refine WK.block ?_ | refine WK.exit_here ?_ | refine WK.e1 ?_ | refine WK.e2 ?_ | refine WK.drawnS (id := 5) mixed [] [10, 12] [0, 0, 0, 0, 0, 0, 0, 0, 0, 0, 0, 1, 1, 2] [1, 1, 1, 0, 0, 0, 0, 0, 0, 0, 0, 1, 1, 2] (by decide +kernel) ?_ | refine DW.nil ?_ | (with_reducible refine IL.wr ?_ ?_; focus exact cW) | (with_reducible refine DW.wr ?_ ?_; focus exact cW) | refine IL.sgF ttok ?_ | refine DW.reF ttok ?_ | refine DW.rmF ttok ?_ | (refine DW.bst (T' := ?_) ttok rfl ?_ (fun K hK => ?_) ?_ ?_; rotate_left 1; (focus exact cG); (focus (simp only [go_sem, reduceIte, hat, hle, hw1]; exact cK hK)); (focus (first | exact ⟨_, rfl⟩ | rfl))) | refine DW.cSF ttok ent15 [.bor, .bor, .bor] false ?_ (hS := by exact hwi) | refine DW.cSF ttok ent45 [.bor, .bor] false ?_ (hS := by exact hjo) | refine IL.cSF ttok ent46 [.bor, .bor] true ?_ (hS := by exact hla) | (refine WK.cn (fun h => ?_) (fun h => ?_); all_goals first | (simp only [reduceCtorEq] at h; done) | (simp only [hsA, hsD, hsE, ne_eq] at h; first | done | (exfalso; omega; done) | skip) | skip))
    refine ⟨trivial, ?_⟩
    (refine Weak.renP 1 [0, 1] hfx (fun k h => of_decide_eq_true h) (fun k hk => by obtain rfl : k = 0 := (by omega); exact ⟨rfl, _, rfl, rfl⟩) rfl ?_ ?_ rfl <;> (simp only [go_sem, reduceIte, exists_eq_left', exists_eq_left, Blk.mk.injEq] <;> (try and_intros) <;> first | rfl | omega))
  · rw [List.take_length]
    have hwv := wantV_vec l hl
    have hla := Vc.lacks_call v (wantV l) hv.s hv.ok hwv.ok (by omega) (by have := hwv.len; omega)
    generalize wantV l = w at *
    generalize Vc.lackV v w = y at *
    repeat' (first | refine WK.seq ?_ | refine WK.reg ?_ | refine IL.nil ?_ | refine WK.skip ?_ | refine WK.block ?_ | refine WK.exit_here ?_ | refine WK.e1 ?_ | refine WK.e2 ?_ | refine WK.drawnS (id := 5) mixed [] [10, 12] [0, 0, 0, 0, 0, 0, 0, 0, 0, 0, 0, 1, 1, 2] [1, 1, 1, 0, 0, 0, 0, 0, 0, 0, 0, 1, 1, 2] (by decide +kernel) ?_ | refine DW.nil ?_ | (with_reducible refine IL.wr ?_ ?_; focus exact cW) | (with_reducible refine DW.wr ?_ ?_; focus exact cW) | refine IL.sg ttok ?_ | refine DW.re ttok ?_ | refine DW.rm ttok ?_ | (refine DW.bst (T' := ?_) ttok rfl ?_ (fun K hK => ?_) ?_ ?_; rotate_left 1; (focus exact cG); (focus (simp only [go_sem, reduceIte]; exact cK hK)); (focus (first | exact ⟨_, rfl⟩ | rfl))) | refine DW.cS ttok ent15 [.bor, .bor, .bor] false ?_ (hS := by exact hwi) | refine DW.cS ttok ent45 [.bor, .bor] false ?_ (hS := by exact hjo) | refine IL.cS ttok ent46 [.bor, .bor] true ?_ (hS := by exact hla) | (refine WK.cn (fun h => ?_) (fun h => ?_); all_goals first | (simp only [reduceCtorEq] at h; done) | (simp only [hsA, hsD, hsE, ne_eq] at h; first | done | (exfalso; omega; done) | skip) | skip))
    all_goals try ((first | refine WK.ret ⟨.inr rfl, ?_⟩ | refine ⟨.inl rfl, ?_⟩ | refine ⟨.inl trivial, ?_⟩); refine Fin.o ?_ ?_ (h1 := by first | rfl | (simp only [go_sem, show Try.f20.results.toList = [.tmp 4] from rfl, reduceIte] <;> rfl)); rotate_left 1; (focus (first | rfl | skip)); all_goals try with_reducible rfl)
    all_goals skip
end Go.Proofs.Ytclhjcbnpdlgbaa
/- the document's example of a buffer; the first of a name. -/
namespace Go.Proofs.Ytclhjcbnpdlgbaa
open Go Go.Lift
set_option maxHeartbeats 4000000
set_option linter.unusedSimpArgs false
set_option linter.unusedVariables false
attribute [local irreducible] WK IL IP IG IW DW

def plO : OpV := ⟨1, 0, 0, 1, [97], [], 0⟩
def plE (r s : Int) : EnV := ⟨[], r, s, 1, 0, [plO]⟩
abbrev plJ (r s : Int) : IV := .agg (enL (.tr 0 []) r s 1 0 (.tr 1 [.v (.int .i64 1), .v (.int .u16 0), .v (.int .u32 0), .v (.int .u32 1), .v (.string ⟨[97].toArray⟩), .emp, .v (.int .u32 0)]))
theorem plE_call (r s : Int) : SCall Try.prog 31 [.v (.int .u16 r), .v (.int .u32 s)] (.ago (enL .emp r s 1 0 (.own 109 1 false [.v (.int .i64 1), .v (.int .u16 0), .v (.int .u32 0), .v (.int .u32 1), .v (.string ⟨[97].toArray⟩), .emp, .v (.int .u32 0)]))) [.v (.int .u16 r), .v (.int .u32 s)] := by
  refine SCall.of_body' (TT := TT) (fun _ => false) [false, false] ttok Try.func31 rfl (Nat.le_of_ble_eq_true rfl) rfl fun fx hfx => WK.top ?_
  simp only [impl, imp, argT, List.append_nil, List.map_nil, List.nil_append, show Try.f31.ntmps = 11 from rfl, Nat.zero_add, Nat.reduceAdd]
  repeat' (first | refine WK.seq ?_ | refine WK.reg ?_ | refine IL.nil ?_ | (with_reducible refine IL.wr ?_ ?_; focus exact cW) | refine IL.sg ttok ?_)
  all_goals try ((first | refine WK.ret ⟨.inr rfl, ?_⟩ | refine ⟨.inl rfl, ?_⟩ | refine ⟨.inl trivial, ?_⟩); refine Fin.o ?_ ?_ (h1 := by first | rfl | (simp only [go_sem, show Try.f31.results.toList = [.cell 4 36] from rfl, reduceIte] <;> rfl)); rotate_left 1; (focus (first | rfl | skip)); all_goals try with_reducible rfl)
  all_goals first | rfl | skip
theorem pl_ok (r s : Int) (hr : 0 ≤ r ∧ r ≤ 65535) (hs : 1 ≤ s ∧ s ≤ 268435456) : okE (plE r s) := ⟨vec_nil, hr, hs, by simp [plE]⟩
theorem anchor11 : SCall Try.prog 6 [] (.v (.bool true)) [] := by
  have hp1 := SCall.frz (plE_call 1 2) rfl
  have hp2 := SCall.frz (plE_call 2 1) rfl
  simp only [frzR, frzRl] at hp1 hp2
  have n1 : nb (plE 1 2) := by unfold nb plE; decide
  have n2 : nb (plE 2 1) := by unfold nb plE; decide
  have k1 : kE (plE 1 2) = 4294967298 := rfl
  have k2 : kE (plE 2 1) = 8589934593 := rfl
  have e1 : putE [] (plE 1 2) = [plE 1 2] := rfl
  have q2 : posE [plE 1 2] (kE (plE 2 1)) = 1 := by unfold posE; rw [List.countP_cons, List.countP_nil, k1, k2]; rfl
  have e2 : putE [plE 1 2] (plE 2 1) = [plE 1 2, plE 2 1] := by unfold putE; rw [q2]; rfl
  have s1 : SrtE [plE 1 2] := List.pairwise_singleton _ _
  have hput1 := put_ok [] (plE 1 2) List.Pairwise.nil (by simp) n1 (by simp) rfl (by simp)
  have hput2 := put_ok [plE 1 2] (plE 2 1) s1 (fun x hx => by rw [List.mem_singleton.1 hx]; exact n1) n2 (by simp) (by unfold hasE; rw [q2]; rfl) (by simp)
  rw [e1] at hput1
  rw [e2] at hput2
  have hok : ∀ x ∈ [plE 1 2, plE 2 1], okE x := fun x hx => by
    simp only [List.mem_cons, List.not_mem_nil, or_false] at hx
    rcases hx with rfl | rfl
    · exact pl_ok 1 2 (by decide) (by decide)
    · exact pl_ok 2 1 (by decide) (by decide)
  have hwa := wants_call [plE 1 2, plE 2 1] [] vec_nil (by simp) hok (by simp)
  have hlv : Vc.lackV [] (wantV [plE 1 2, plE 2 1]) = [(1, 1, 1)] := by decide
  rw [hlv] at hwa
  have hta := take_some [plE 1 2, plE 2 1] [] vec_nil (by simp) hok (by simp) 1 (plE 2 1) rfl (by decide) (fun j x hj hx => by
    obtain rfl : j = 0 := by omega
    simp only [List.getElem?_cons_zero, Option.some.injEq] at hx
    subst hx; decide)
  have hput1 := SCall.weakAE [bufO [], plJ 1 2] hput1
  have hput2 := SCall.weakAE [bufO [plE 1 2], plJ 2 1] hput2
  generalize [plE 1 2, plE 2 1].take 1 ++ [plE 1 2, plE 2 1].drop (1 + 1) = W at *
  simp only [List.length_cons, List.length_nil, encs_cons, encs_nil, Nat.zero_add, List.append_nil, Vc.gpC, List.cons_append, List.nil_append] at hwa
  rw [envC_eq] at hta
  refine SCall.of_body' (TT := TT) (fun _ => false) [] ttok Try.func6 rfl (Nat.le_of_ble_eq_true rfl) rfl fun fx hfx => WK.top ?_
  simp only [impl, imp, argT, List.append_nil, List.map_nil, List.nil_append, show Try.f6.ntmps = 33 from rfl, Nat.zero_add, Nat.reduceAdd]
  repeat' (first | refine WK.seq ?_ | refine WK.reg ?_ | refine IL.nil ?_ | (with_reducible refine IL.wr ?_ ?_; focus exact cW) | refine IL.sg ttok ?_ | refine IL.nn ?_ | refine IL.cS ttok ent9 [.own, .bor] false ?_ (hS := by first | exact hput1 | exact hput2) | refine IL.cS ttok ent11 [.own, .bor] false ?_ (hS := by exact hta) | refine IL.cS ttok ent20 [.own, .bor] false ?_ (hS := by exact hwa) | refine IL.cS ttok ent31 [.bor, .bor] false ?_ (hS := by first | exact hp1 | exact hp2) | (((first | refine IL.ag (fun h => ?_) (fun h => ?_) | refine IL.ap (fun h => ?_) (fun h => ?_)); (fail_if_success (focus (simp only [reduceCtorEq] at h)))); all_goals first | (simp only [reduceCtorEq] at h; done) | (simp only [hsA, hsD, hsE, ne_eq] at h; first | done | (exfalso; omega; done) | skip) | skip))
  all_goals try ((first | refine WK.ret ⟨.inr rfl, ?_⟩ | refine ⟨.inl rfl, ?_⟩ | refine ⟨.inl trivial, ?_⟩); refine Fin.o ?_ ?_ (h1 := by first | rfl | (simp only [go_sem, show Try.f6.results.toList = [.tmp 0] from rfl, reduceIte] <;> rfl)); rotate_left 1; (focus (first | rfl | skip)); all_goals try with_reducible rfl)
  all_goals exact absurd rfl h
end Go.Proofs.Ytclhjcbnpdlgbaa
/- what waits, plain: names in order, first ones. -/
namespace Go.Proofs.Ytclhjcbnpdlgbaa
open Go Go.Lift
set_option maxHeartbeats 4000000
set_option linter.unusedSimpArgs false
set_option linter.unusedVariables false

theorem okE_nb {e : EnV} (h : okE e) : nb e := ⟨h.2.1, by have := h.2.2.1; omega⟩
theorem hasE_iff {l : List EnV} (hs : SrtE l) (K : Int) : hasE l K = true ↔ ∃ x ∈ l, kE x = K := by
  unfold hasE
  constructor
  · intro h
    split at h
    · rename_i x hx
      exact ⟨x, List.mem_of_getElem? hx, by simpa using h⟩
    · cases h
  · rintro ⟨x, hx, hk⟩
    obtain ⟨i, hi, rfl⟩ := List.mem_iff_getElem.1 hx
    have h1 := posE_iff hs i _ (List.getElem?_eq_getElem hi) (r := K)
    have hge : posE l K ≤ i := by omega
    have hp : posE l K < l.length := by omega
    have h2 := posE_iff hs (posE l K) _ (List.getElem?_eq_getElem hp) (r := K)
    have hle : ¬ posE l K < i := fun h => by
      have := List.pairwise_iff_getElem.1 hs (posE l K) i hp hi h
      omega
    obtain rfl : i = posE l K := by omega
    rw [List.getElem?_eq_getElem hi]
    simpa using hk
theorem mem_putE {l : List EnV} {e x : EnV} : x ∈ putE l e ↔ x = e ∨ x ∈ l := by
  unfold putE
  rw [List.mem_append, List.mem_append, List.mem_singleton]
  have h : x ∈ l ↔ x ∈ l.take (posE l (kE e)) ∨ x ∈ l.drop (posE l (kE e)) := by rw [← List.mem_append, List.take_append_drop]
  rw [h]
  constructor
  · rintro (h | h | h)
    · exact .inr (.inl h)
    · exact .inl h
    · exact .inr (.inr h)
  · rintro (h | h | h)
    · exact .inr (.inl h)
    · exact .inl h
    · exact .inr (.inr h)
theorem putE_srt {l : List EnV} {e : EnV} (hs : SrtE l) (hno : hasE l (kE e) = false) : SrtE (putE l e) := by
  have hne : ∀ x ∈ l, kE x ≠ kE e := fun x hx hk => by
    have := (hasE_iff hs (kE e)).2 ⟨x, hx, hk⟩
    rw [hno] at this; cases this
  have h1 : ∀ x ∈ l.take (posE l (kE e)), kE x < kE e := fun x hx => by
    obtain ⟨i, hi, rfl⟩ := List.mem_iff_getElem.1 hx
    rw [List.getElem_take]
    rw [List.length_take] at hi
    exact (posE_iff hs i _ (List.getElem?_eq_getElem (by omega)) (r := kE e)).2 (by omega)
  have h2 : ∀ x ∈ l.drop (posE l (kE e)), kE e < kE x := fun x hx => by
    have hm := List.mem_of_mem_drop hx
    obtain ⟨i, hi, rfl⟩ := List.mem_iff_getElem.1 hx
    rw [List.length_drop] at hi
    rw [List.getElem_drop] at hm ⊢
    have h3 := (posE_iff hs (posE l (kE e) + i) _ (List.getElem?_eq_getElem (by omega)) (r := kE e))
    have h4 := hne _ hm
    omega
  unfold SrtE putE
  rw [List.pairwise_append]
  refine ⟨hs.sublist (List.take_sublist _ _), ?_, fun a ha b hb => ?_⟩
  · rw [List.singleton_append, List.pairwise_cons]
    exact ⟨h2, hs.sublist (List.drop_sublist _ _)⟩
  · rw [List.mem_append, List.mem_singleton] at hb
    rcases hb with rfl | hb
    · exact h1 a ha
    · exact Int.lt_trans (h1 a ha) (h2 b hb)
theorem rdy_cases (v : List Vc.Ve) : ∀ B : List EnV, (∀ x ∈ B, rdyE v x = false) ∨ ∃ (K : Nat) (e : EnV), B[K]? = some e ∧ rdyE v e = true ∧ ∀ (j : Nat) (x : EnV), j < K → B[j]? = some x → rdyE v x = false
  | [] => .inl (by simp)
  | b :: B => by
    by_cases hb : rdyE v b = true
    · exact .inr ⟨0, b, rfl, hb, fun j x hj => by omega⟩
    · rcases rdy_cases v B with h | ⟨K, e, h1, h2, h3⟩
      · refine .inl fun x hx => ?_
        rcases List.mem_cons.1 hx with rfl | hx
        · exact Bool.eq_false_iff.2 hb
        · exact h x hx
      · refine .inr ⟨K + 1, e, by simpa using h1, h2, fun j x hj hx => ?_⟩
        cases j with
        | zero => simp at hx; subst hx; exact Bool.eq_false_iff.2 hb
        | succ j => exact h3 j x (by omega) (by simpa using hx)
theorem mem_without {B : List EnV} {K : Nat} {x : EnV} (h : x ∈ B.take K ++ B.drop (K + 1)) : x ∈ B := by
  rcases List.mem_append.1 h with h | h
  · exact List.mem_of_mem_take h
  · exact List.mem_of_mem_drop h
theorem without_srt {B : List EnV} (hs : SrtE B) (K : Nat) : SrtE (B.take K ++ B.drop (K + 1)) := by
  have : (B.take K ++ B.drop (K + 1)).Sublist B := by
    have h := List.Sublist.append (List.Sublist.refl (B.take K)) (List.drop_sublist_drop_left B (Nat.le_succ K))
    rwa [List.take_append_drop] at h
  exact hs.sublist this
open Classical in
theorem smallE_ok {e : EnV} (hw : wfD e.d) (hr : 0 ≤ e.r ∧ e.r ≤ 65535) (h : smallE e.d e.r e.s e.c e.u e.ops) : okE e := by
  obtain ⟨⟨h1, h2⟩, h3⟩ := h
  obtain ⟨f1, f2, f3⟩ := fit10_ok h3
  have f4 := fit9_ok f3
  exact ⟨Vc.Vec.of f1 fun x hx => (hw x hx).1, hr, ⟨f4.1, f4.2.1⟩, by omega⟩
end Go.Proofs.Ytclhjcbnpdlgbaa
/- HoldDrains: its function. -/
namespace Go.Proofs.Ytclhjcbnpdlgbaa
open Go Go.Lift
set_option maxHeartbeats 8000000
set_option linter.unusedSimpArgs false
set_option linter.unusedVariables false
attribute [local irreducible] WK IL IP IG IW DW

structure GE (e : EnV) : Prop where
  d : wfD e.d
  n : nb e
  o : ∀ o ∈ e.ops, wfC o
  d8 : e.d.length * 8 ≤ 140737488355328
  o72 : e.ops.length * 72 ≤ 140737488355328
  s16 : ∀ o ∈ e.ops, o.s.length * 16 ≤ 140737488355328
  t : ∀ o ∈ e.ops, o.t.length ≤ 9223372036854775807 ∧ o.s.length ≤ 9223372036854775807
end Go.Proofs.Ytclhjcbnpdlgbaa
/- what any row of envelopes is. -/
namespace Go.Proofs.Ytclhjcbnpdlgbaa
open Go Go.Lift Go.ChangeShapes Go.WideShapes Go.RowKit
set_option linter.unusedVariables false
theorem ops_of {x : IV} (h : Ty (.row [.int .i64, .int .u16, .int .u32, .int .u32, .str, .row [.int .u16, .int .u32, .int .i64], .int .u32]) x) : ∃ ops : List OpV, x = .tr ops.length (encs opC ops) ∧ ∀ o ∈ ops, (wfC o ∧ (0 ≤ o.r ∧ o.r ≤ 65535) ∧ ∀ x ∈ o.s, 0 ≤ x.1 ∧ x.1 ≤ 65535) ∧ o.t.length ≤ 9223372036854775807 ∧ o.s.length ≤ 9223372036854775807 := by
  obtain ⟨l, h1, _, h3⟩ := row_of (f := opC) (good := fun o => (wfC o ∧ (0 ≤ o.r ∧ o.r ≤ 65535) ∧ ∀ x ∈ o.s, 0 ≤ x.1 ∧ x.1 ≤ 65535) ∧ o.t.length ≤ 9223372036854775807 ∧ o.s.length ≤ 9223372036854775807) (fun c h1 => by
    obtain ⟨y1, ys1, rfl, a1, h1⟩ := h1.cons_inv
    obtain ⟨y2, ys2, rfl, a2, h1⟩ := h1.cons_inv
    obtain ⟨y3, ys3, rfl, a3, h1⟩ := h1.cons_inv
    obtain ⟨y4, ys4, rfl, a4, h1⟩ := h1.cons_inv
    obtain ⟨y5, ys5, rfl, a5, h1⟩ := h1.cons_inv
    obtain ⟨y6, ys6, rfl, a6, h1⟩ := h1.cons_inv
    obtain ⟨y7, ys7, rfl, a7, h1⟩ := h1.cons_inv
    obtain rfl := h1.nil_inv
    obtain ⟨k, rfl, w1⟩ := a1.int_inv
    obtain ⟨r, rfl, w2⟩ := a2.int_inv
    obtain ⟨n, rfl, w3⟩ := a3.int_inv
    obtain ⟨m, rfl, w4⟩ := a4.int_inv
    obtain ⟨t, rfl, w5⟩ := a5.str_inv
    obtain ⟨q, rfl, w7⟩ := a7.int_inv
    obtain ⟨l, rfl, hl, hg⟩ := row_of (f := spC) (good := fun s => ((0 ≤ s.2.1 ∧ s.2.1 ≤ 4294967295) ∧ (-9223372036854775808 ≤ s.2.2 ∧ s.2.2 ≤ 9223372036854775807)) ∧ (0 ≤ s.1 ∧ s.1 ≤ 65535)) (fun c hc => by
      obtain ⟨y1, ys1, rfl, a1, hc⟩ := hc.cons_inv
      obtain ⟨y2, ys2, rfl, a2, hc⟩ := hc.cons_inv
      obtain ⟨y3, ys3, rfl, a3, hc⟩ := hc.cons_inv
      obtain rfl := hc.nil_inv
      obtain ⟨r, rfl, w1⟩ := a1.int_inv
      obtain ⟨n, rfl, w2⟩ := a2.int_inv
      obtain ⟨k, rfl, w3⟩ := a3.int_inv
      exact ⟨(r, n, k), rfl, ⟨wf_u32 w2, wf_i64 w3⟩, wf_u16 w1⟩) a6
    refine ⟨⟨k, r, n, m, t.data.toList, l, q⟩, by rw [ba_eta t]; rfl, ⟨⟨(wf_u32 w3).1, wf_u32 w4, wf_u32 w7, fun x hx => (hg x hx).1⟩, wf_u16 w2, fun x hx => (hg x hx).2⟩, ?_, ?_⟩
    · unfold Go.maxLen at w5; simpa using w5
    · unfold Go.maxLen at hl; exact (by omega : l.length ≤ 9223372036854775807)) h
  exact ⟨l, h1, h3⟩
theorem deps_of {x : IV} (h : Ty (.row [.int .u16, .int .u32]) x) : ∃ d : List Vc.Ve, x = .tr d.length (encs Vc.veC d) ∧ d.length ≤ 9223372036854775807 ∧ wfD d := by
  obtain ⟨l, h1, h2, h3⟩ := row_of (f := Vc.veC) (good := fun s => (0 ≤ s.1 ∧ s.1 ≤ 65535) ∧ (0 ≤ s.2 ∧ s.2 ≤ 4294967295)) (fun c hc => by
    obtain ⟨y1, ys1, rfl, a1, hc⟩ := hc.cons_inv
    obtain ⟨y2, ys2, rfl, a2, hc⟩ := hc.cons_inv
    obtain rfl := hc.nil_inv
    obtain ⟨r, rfl, w1⟩ := a1.int_inv
    obtain ⟨n, rfl, w2⟩ := a2.int_inv
    exact ⟨(r, n), rfl, wf_u16 w1, wf_u32 w2⟩) h
  exact ⟨l, h1, by unfold Go.maxLen at h2; omega, h3⟩
end Go.Proofs.Ytclhjcbnpdlgbaa
/- the envelopes that are past: Past, Drop. -/
namespace Go.Proofs.Ytclhjcbnpdlgbaa
open Go Go.Lift
set_option maxHeartbeats 4000000
set_option linter.unusedSimpArgs false
set_option linter.unusedVariables false
attribute [local irreducible] WK IL IP IG IW DW

def pastE (v : List Vc.Ve) (e : EnV) : Bool := decide (e.s ≤ Vc.getV v e.r)
theorem pastE_call (e : EnV) (v : List Vc.Ve) (he : okE e) (hv : Vc.Vec v) (hvl : v.length ≤ 100000) : SCall Try.prog 49 [.agg (envC e), .tr v.length (encs Vc.veC v)] (.v (.bool (pastE v e))) [.agg (envC e), .tr v.length (encs Vc.veC v)] := by
  have hcg := Vc.get_call v e.r hv.s hv.ok.r he.2.1 (by omega)
  unfold pastE
  rw [envC_eq]
  generalize Vc.getV v e.r = g at *
  refine SCall.of_body' (TT := TT) (fun _ => false) [false, false] ttok Try.func49 rfl (Nat.le_of_ble_eq_true rfl) rfl fun fx hfx => WK.top ?_
  simp only [impl, imp, argT, List.append_nil, List.map_nil, List.nil_append, show Try.f49.ntmps = 14 from rfl, Nat.zero_add, Nat.reduceAdd]
  repeat' (first | refine WK.seq ?_ | refine WK.reg ?_ | refine IL.nil ?_ | refine WK.drawnS (id := 1) mixed [] [4] [0, 0, 0, 0, 0, 0, 0, 0, 1, 1] [0, 0, 0, 0, 0, 1, 1, 1, 1, 1] (by decide +kernel) ?_ | refine DW.nil ?_ | (with_reducible refine IL.wr ?_ ?_; focus exact cW) | (with_reducible refine DW.wr ?_ ?_; focus exact cW) | refine IL.sg ttok ?_ | refine DW.re ttok ?_ | refine DW.rm ttok ?_ | refine DW.cS ttok ent61 [.bor, .bor] true ?_ (hS := by exact hcg))
  all_goals try ((first | refine WK.ret ⟨.inr rfl, ?_⟩ | refine ⟨.inl rfl, ?_⟩ | refine ⟨.inl trivial, ?_⟩); refine Fin.o ?_ ?_ (h1 := by first | rfl | (simp only [go_sem, show Try.f49.results.toList = [.tmp 4] from rfl, reduceIte] <;> rfl)); rotate_left 1; (focus (first | rfl | skip)); all_goals try with_reducible rfl)
  all_goals skip
theorem drop1_call (e : EnV) (v : List Vc.Ve) (he : okE e) (hv : Vc.Vec v) (hvl : v.length ≤ 100000) : SCall Try.prog 48 [.agg (envC e), .obj [.tr v.length (encs Vc.veC v)]] (.v (.bool (pastE v e))) [.agg (envC e), .obj [.tr v.length (encs Vc.veC v)]] := by
  have hpa := pastE_call e v he hv hvl
  rw [envC_eq] at hpa
  rw [envC_eq]
  generalize pastE v e = B at *
  generalize v.length = vn at *
  generalize encs Vc.veC v = vc at *
  refine SCallG.toS (SCallF.toG ?_)
  refine SCallF.of_body' (G := []) [] (TT := TT) (fun k => decide (k < 1)) [false, false] ttok Try.func48 rfl (Nat.le_of_ble_eq_true rfl) rfl fun fx hfx hgf => WK.top ?_
  simp only [impl, imp, argT, packIV, pk, List.take_succ_cons, List.drop_succ_cons, List.take_zero, List.drop_zero, List.append_nil, List.map_nil, List.map_cons, List.nil_append, List.cons_append, List.length_cons, List.length_nil, show Try.f48.ntmps = 7 from rfl, Nat.zero_add, Nat.reduceAdd]
  repeat' (first | refine WK.seq ?_ | refine WK.reg ?_ | refine IL.nil ?_ | (with_reducible refine IL.wr ?_ ?_; focus exact cW) | refine IL.sg ttok ?_ | refine IL.cS ttok ent49 [.bor, .bor] true ?_ (hS := by exact hpa))
  all_goals try ((first | refine WK.ret ⟨.inr rfl, ?_⟩ | refine ⟨.inl rfl, ?_⟩ | refine ⟨.inl trivial, ?_⟩); refine Fin.o ?_ ?_ (h1 := by first | rfl | (simp only [go_sem, show Try.f48.results.toList = [.tmp 3] from rfl, reduceIte] <;> rfl)); rotate_left 1; (focus (first | rfl | skip)); all_goals try with_reducible rfl)
  all_goals skip
def ixE (v : List Vc.Ve) (l : List EnV) : Int := match l.findIdx? (pastE v) with
  | some i => i
  | none => -1
theorem ixE_call (l : List EnV) (v : List Vc.Ve) (hl : ∀ x ∈ l, okE x) (hn : l.length ≤ 100000) (hv : Vc.Vec v) (hvl : v.length ≤ 100000) :
    SCallF [] Try.prog 69 [none, some (48, 1)] [.own 36 l.length false (encs envC l), .obj [.tr v.length (encs Vc.veC v)]] (.v (.int .i64 (ixE v l))) [.own 36 l.length false (encs envC l), .obj [.tr v.length (encs Vc.veC v)]] := by
  have hcm0 := fun e he => drop1_call e v he hv hvl
  have hF : ∀ (k : Nat) (hk : k < l.length), (∀ s ∈ l.take k, pastE v s = false) → pastE v l[k] = true → ixE v l = (k : Int) := fun k hk ho h => by
    unfold ixE
    have : l.findIdx? (pastE v) = some k := by
      rw [List.findIdx?_eq_some_iff_getElem]
      refine ⟨hk, h, fun j hj => ?_⟩
      rw [ho _ (List.mem_take_iff_getElem.2 ⟨j, by omega, rfl⟩)]; decide
    rw [this]
  have hN : (∀ s ∈ l, pastE v s = false) → ixE v l = -1 := fun h => by
    unfold ixE
    rw [List.findIdx?_eq_none_iff.2 fun s hs => by rw [h s hs]]
  generalize ixE v l = V at *
  generalize v.length = vn at *
  generalize encs Vc.veC v = vc at *
  refine SCallF.of_body' (G := []) [none, some (48, 1)] (TT := TT) (fun k => decide (k < 2)) [false, false] ttok Try.func69 rfl (Nat.le_of_ble_eq_true rfl) rfl fun fx hfx hgf => WK.top ?_
  simp only [impl, imp, argT, packIV, pk, List.take_succ_cons, List.drop_succ_cons, List.take_zero, List.drop_zero, List.append_nil, List.map_nil, List.map_cons, List.nil_append, List.cons_append, List.length_cons, List.length_nil, show Try.f69.ntmps = 19 from rfl, Nat.zero_add, Nat.reduceAdd]
  repeat' (first | refine WK.seq ?_ | refine WK.reg ?_ | refine IL.nil ?_ | refine WK.skip ?_ | refine WK.block ?_ | refine WK.exit_here ?_ | refine WK.e1 ?_ | refine WK.e2 ?_ | (with_reducible refine IL.wr ?_ ?_; focus exact cW) | refine IL.sg ttok ?_ | refine IL.cS ttok ent48 [.bor, .own] false ?_ (hS := by exact hcm) | (refine WK.cn (fun h => ?_) (fun h => ?_); all_goals first | (simp only [reduceCtorEq] at h; done) | (simp only [hsA, hsD, hsE, ne_eq] at h; first | done | (exfalso; omega; done) | skip) | skip))
  refine WK.forS l.length (fun k => ∀ s ∈ l.take k, pastE v s = false) (fun k => ⟨19, [(0, .sl 0 0 0 l.length), (1, .fn (.func 48) [.ptr 1 0 0]), (7, .v (.int .i64 l.length)), (8, .v (.int .i64 k))], [some ⟨true, 36, l.length, false, encs envC l, 0, false⟩, some ⟨false, 0, 1, false, [.tr vn vc], 0, false⟩]⟩) ⟨by simp, ?_⟩ (fun k hk ho => ?_) (fun ho => ?_)
  · (refine Weak.renP 2 [0, 1] hfx (fun k h => of_decide_eq_true h) (fun k hk => by rcases (show k = 0 ∨ k = 1 by omega) with rfl | rfl <;> exact ⟨rfl, _, rfl, rfl⟩) rfl ?_ ?_ rfl <;> (simp only [go_sem, reduceIte, exists_eq_left', exists_eq_left, Blk.mk.injEq] <;> (try and_intros) <;> first | rfl | omega))
  · have hx : l[k]? = some l[k] := List.getElem?_eq_getElem hk
    have hyes := hF k hk ho
    have hno : pastE v l[k] = false → ∀ s ∈ l.take (k + 1), pastE v s = false := fun h s hs => by
      rw [List.take_add_one, hx] at hs
      rcases List.mem_append.1 hs with hs | hs
      · exact ho s hs
      · simp at hs; rw [hs]; exact h
    have hcm := hcm0 _ (hl _ (List.getElem_mem hk))
    have hle : k * 6 + 6 ≤ l.length * 6 := by omega
    have hat : ((encs envC l).drop (k * 6)).take 6 = envC l[k] := encs_at envC_length hx
    have hne : encs envC l ≠ [] := encs_ne envC_length (by decide) hx
    rw [envC_eq] at hat hcm
    clear hx hF hN hcm0
    generalize pastE v l[k] = B at *
    generalize l[k] = x at *
    cases B with
    | true =>
      rw [hyes rfl]
      have FX := And.intro hat hle
      repeat' (first | refine WK.seq ?_ | refine WK.reg ?_ | refine IL.nil ?_ | refine WK.skip ?_ | refine WK.block ?_ | refine WK.exit_here ?_ | refine WK.e1 ?_ | refine WK.e2 ?_ | (with_reducible refine IL.wr ?_ ?_; focus exact cW) | refine IL.sgF ttok ?_ | refine IL.cSF ttok ent48 [.bor, .own] false ?_ (hS := by exact hcm) | (refine WK.cn (fun h => ?_) (fun h => ?_); all_goals first | (simp only [reduceCtorEq] at h; done) | (simp only [hsA, hsD, hsE, ne_eq] at h; first | done | (exfalso; omega; done) | skip) | skip))
      all_goals try ((first | refine WK.ret ⟨.inr rfl, ?_⟩ | refine ⟨.inl rfl, ?_⟩ | refine ⟨.inl trivial, ?_⟩); refine Fin.o ?_ ?_ (h1 := by first | rfl | (simp only [go_sem, show Try.f69.results.toList = [.tmp 4] from rfl, reduceIte] <;> rfl)); rotate_left 1; (focus (first | rfl | skip)); all_goals try with_reducible rfl)
      all_goals skip
    | false =>
      have FX := And.intro hat hle
      repeat' (first | refine WK.seq ?_ | refine WK.reg ?_ | refine IL.nil ?_ | refine WK.skip ?_ | refine WK.block ?_ | refine WK.exit_here ?_ | refine WK.e1 ?_ | refine WK.e2 ?_ | (with_reducible refine IL.wr ?_ ?_; focus exact cW) | refine IL.sgF ttok ?_ | refine IL.cSF ttok ent48 [.bor, .own] false ?_ (hS := by exact hcm) | (refine WK.cn (fun h => ?_) (fun h => ?_); all_goals first | (simp only [reduceCtorEq] at h; done) | (simp only [hsA, hsD, hsE, ne_eq] at h; first | done | (exfalso; omega; done) | skip) | skip))
      refine ⟨hno rfl, ?_⟩
      (refine Weak.renP 2 [0, 1] hfx (fun k h => of_decide_eq_true h) (fun k hk => by rcases (show k = 0 ∨ k = 1 by omega) with rfl | rfl <;> exact ⟨rfl, _, rfl, rfl⟩) rfl ?_ ?_ rfl <;> (simp only [go_sem, reduceIte, exists_eq_left', exists_eq_left, Blk.mk.injEq] <;> (try and_intros) <;> first | rfl | omega))
  · rw [List.take_length] at ho
    rw [hN ho]
    repeat' (first | refine WK.seq ?_ | refine WK.reg ?_ | refine IL.nil ?_ | refine WK.skip ?_ | refine WK.block ?_ | refine WK.exit_here ?_ | refine WK.e1 ?_ | refine WK.e2 ?_ | (with_reducible refine IL.wr ?_ ?_; focus exact cW) | refine IL.sg ttok ?_ | refine IL.cS ttok ent48 [.bor, .own] false ?_ (hS := by exact hcm) | (refine WK.cn (fun h => ?_) (fun h => ?_); all_goals first | (simp only [reduceCtorEq] at h; done) | (simp only [hsA, hsD, hsE, ne_eq] at h; first | done | (exfalso; omega; done) | skip) | skip))
    all_goals try ((first | refine WK.ret ⟨.inr rfl, ?_⟩ | refine ⟨.inl rfl, ?_⟩ | refine ⟨.inl trivial, ?_⟩); refine Fin.o ?_ ?_ (h1 := by first | rfl | (simp only [go_sem, show Try.f69.results.toList = [.tmp 4] from rfl, reduceIte] <;> rfl)); rotate_left 1; (focus (first | rfl | skip)); all_goals try with_reducible rfl)
    all_goals skip
end Go.Proofs.Ytclhjcbnpdlgbaa
/- slices.DeleteFunc at the envelopes that are past. -/
namespace Go.Proofs.Ytclhjcbnpdlgbaa
open Go Go.Lift
set_option maxHeartbeats 4000000
set_option linter.unusedSimpArgs false
set_option linter.unusedVariables false
attribute [local irreducible] WK IL IP IG IW DW

theorem putAt_mid : ∀ (xs ys o t : List IV), xs.length = ys.length → putAt (o ++ (ys ++ t)) o.length xs = o ++ (xs ++ t)
  | [], ys, o, t, h => by
    have : ys = [] := List.eq_nil_of_length_eq_zero h.symm
    subst this; rfl
  | x :: xs, [], o, t, h => by simp at h
  | x :: xs, y :: ys, o, t, h => by
    have hs : (o ++ (y :: ys ++ t)).set o.length x = (o ++ [x]) ++ (ys ++ t) := by simp
    rw [putAt, hs]
    have := putAt_mid xs ys (o ++ [x]) t (by simpa using h)
    simp only [List.length_append, List.length_cons, List.length_nil, Nat.zero_add] at this
    rw [this]; simp
theorem take_putAt : ∀ (xs cs : List IV) (o p : Nat), p ≤ o → (putAt cs o xs).take p = cs.take p
  | [], cs, o, p, h => rfl
  | x :: xs, cs, o, p, h => by
    rw [putAt, take_putAt xs _ (o + 1) p (by omega), List.take_set_of_le h]
theorem encE_set (R : List EnV) (x : EnV) (i : Nat) (hi : i < R.length) : putAt (encs envC R) (i * 6) (envC x) = encs envC (R.set i x) := by
  have h1 : R = R.take i ++ (R[i] :: R.drop (i + 1)) := by rw [← List.drop_eq_getElem_cons hi, List.take_append_drop]
  have h2 : encs envC R = encs envC (R.take i) ++ (envC R[i] ++ encs envC (R.drop (i + 1))) := by
    conv => lhs; rw [h1]
    rw [← encs_append, encs_cons]
  have h3 : (encs envC (R.take i)).length = i * 6 := by rw [encs_length envC_length, List.length_take, Nat.min_eq_left (by omega)]
  rw [h2, ← h3, putAt_mid (envC x) (envC R[i]) _ _ rfl, List.set_eq_take_append_cons_drop, if_pos hi, ← encs_append, encs_cons]
def keepE (v : List Vc.Ve) (l : List EnV) : List EnV := l.filter fun e => !pastE v e
def DInv (v : List Vc.Ve) (l : List EnV) (i j : Nat) (R : List EnV) : Prop := i ≤ j ∧ j ≤ l.length ∧ R.length = l.length ∧ R.take i = keepE v (l.take j) ∧ R.drop j = l.drop j
theorem DInv.at {v : List Vc.Ve} {l R : List EnV} {i j : Nat} (h : DInv v l i j R) (hj : j < l.length) : R[j]? = some l[j] := by
  obtain ⟨_, _, h3, _, h5⟩ := h
  have := congrArg (fun z => z[0]?) h5
  simp only [List.getElem?_drop, Nat.add_zero] at this
  rw [this, List.getElem?_eq_getElem hj]
theorem DInv.past {v : List Vc.Ve} {l R : List EnV} {i j : Nat} (h : DInv v l i j R) (hj : j < l.length) (hp : pastE v l[j] = true) : DInv v l i (j + 1) R := by
  obtain ⟨h1, h2, h3, h4, h5⟩ := h
  refine ⟨by omega, by omega, h3, ?_, ?_⟩
  · unfold keepE at *
    rw [h4, List.take_add_one, List.getElem?_eq_getElem hj, List.filter_append]
    simp [hp]
  · have := congrArg (List.drop 1) h5
    simpa only [List.drop_drop] using this
theorem DInv.keep {v : List Vc.Ve} {l R : List EnV} {i j : Nat} (h : DInv v l i j R) (hj : j < l.length) (hp : pastE v l[j] = false) : DInv v l (i + 1) (j + 1) (R.set i l[j]) := by
  obtain ⟨h1, h2, h3, h4, h5⟩ := h
  have hi : i < R.length := by omega
  refine ⟨by omega, by omega, by simpa using h3, ?_, ?_⟩
  · unfold keepE at *
    rw [List.take_add_one (i := j), List.getElem?_eq_getElem hj, List.filter_append, ← h4, List.take_add_one, List.take_set_of_le (Nat.le_refl i)]
    simp [hp, hi]
  · have := congrArg (List.drop 1) h5
    rw [List.drop_set_of_lt (by omega)]
    simpa only [List.drop_drop] using this
theorem DInv.init {v : List Vc.Ve} {l : List EnV} {i : Nat} (hi : l.findIdx? (pastE v) = some i) : i < l.length ∧ DInv v l i (i + 1) l := by
  obtain ⟨h1, h2, h3⟩ := List.findIdx?_eq_some_iff_getElem.1 hi
  refine ⟨h1, by omega, by omega, rfl, ?_, rfl⟩
  unfold keepE
  rw [List.take_add_one, List.getElem?_eq_getElem h1, List.filter_append]
  simp only [Option.toList_some, List.filter_cons, h2, Bool.not_true, List.filter_nil]
  rw [List.filter_eq_self.2]
  · simp
  · intro x hx
    obtain ⟨j, hj, rfl⟩ := List.mem_take_iff_getElem.1 hx
    have := h3 j (by omega)
    simpa using this
theorem DInv.done {v : List Vc.Ve} {l R : List EnV} {i j : Nat} (h : DInv v l i j R) (hj : ¬ j < l.length) : R.take i = keepE v l ∧ (keepE v l).length = i := by
  obtain ⟨h1, h2, h3, h4, h5⟩ := h
  rw [List.take_of_length_le (l := l) (by omega)] at h4
  refine ⟨h4, ?_⟩
  rw [← h4, List.length_take]; omega
theorem delF_call (l : List EnV) (v : List Vc.Ve) (h0 : 0 < l.length) (hl : ∀ x ∈ l, okE x) (hn : l.length ≤ 100000) (hv : Vc.Vec v) (hvl : v.length ≤ 100000) :
    SCallF [] Try.prog 47 [none, some (48, 1)] [.own 36 l.length false (encs envC l), .obj [.tr v.length (encs Vc.veC v)]] (.own 36 (keepE v l).length false (encs envC (keepE v l))) [.gone, .obj [.tr v.length (encs Vc.veC v)]] := by
  have hix := ixE_call l v hl hn hv hvl
  have hcm0 := fun e he => drop1_call e v he hv hvl
  cases hfi : l.findIdx? (pastE v) with
  | none =>
    have hk : keepE v l = l := by
      unfold keepE
      rw [List.filter_eq_self]
      intro x hx
      rw [List.findIdx?_eq_none_iff.1 hfi x hx]; rfl
    have hi : ixE v l = -1 := by unfold ixE; rw [hfi]
    rw [hi] at hix
    rw [hk]
    clear hcm0 hk hi hfi hl
    generalize encs envC l = L at *
    generalize v.length = vn at *
    generalize encs Vc.veC v = vc at *
    refine SCallF.of_body' (G := []) [none, some (48, 1)] (TT := TT) (fun k => decide (k < 2)) [true, false] ttok Try.func47 rfl (Nat.le_of_ble_eq_true rfl) rfl fun fx hfx hgf => WK.top ?_
    simp only [impl, imp, argT, packIV, pk, List.take_succ_cons, List.drop_succ_cons, List.take_zero, List.drop_zero, List.append_nil, List.map_nil, List.map_cons, List.nil_append, List.cons_append, List.length_cons, List.length_nil, show Try.f47.ntmps = 42 from rfl, Nat.zero_add, Nat.reduceAdd]
    have FX := h0
    repeat' (first | refine WK.seq ?_ | refine WK.reg ?_ | refine IL.nil ?_ | refine WK.skip ?_ | refine WK.block ?_ | refine WK.exit_here ?_ | refine WK.e1 ?_ | refine WK.e2 ?_ | (with_reducible refine IL.wr ?_ ?_; focus exact cW) | refine IL.sgF ttok ?_ | refine IL.cSF ttok ent48 [.bor, .own] false ?_ (hS := by exact hcm) | (refine IL.callSF [none, some (48, 1)] hgf (f := 69) (xs := ?_) (A := ?_) (A' := ?_) (rr := ?_) (σ' := ?_) (bs := ?_) (ks := ?_) (sets := ?_) (pushes := ?_) ttok ent69 [.own, .own] false ?_ ?_ ?_ ?_ ?_ ?_ ?_ ?_ ?_ ?_ (fun K hK => ?_) ?_; rotate_left 9; (focus exact cG); (focus rfl); (focus rfl); (focus (first | rfl | (simp only [go_sem, reduceIte, h0] <;> rfl))); (focus (exact hix)); (focus rfl); (focus rfl); (focus (first | rfl | simp only [go_sem])); (focus (first | rfl | (simp only [go_sem, reduceIte, h0] <;> rfl))); (focus simp); (focus (simp only [go_sem, reduceIte, h0]; exact cK hK))) | (refine WK.cn (fun h => ?_) (fun h => ?_); all_goals first | (simp only [reduceCtorEq] at h; done) | (simp only [hsA, hsD, hsE, ne_eq] at h; first | done | (exfalso; omega; done) | skip) | skip))
    all_goals try ((first | refine WK.ret ⟨.inr rfl, ?_⟩ | refine ⟨.inl rfl, ?_⟩ | refine ⟨.inl trivial, ?_⟩); refine Fin.o ?_ ?_ (h1 := by first | rfl | (simp only [go_sem, show Try.f47.results.toList = [.tmp 4] from rfl, reduceIte] <;> rfl)); rotate_left 1; (focus (first | rfl | skip)); all_goals try with_reducible rfl)
    all_goals skip
  | some p =>
    obtain ⟨hp, hD⟩ := DInv.init hfi
    have hi : ixE v l = (p : Int) := by unfold ixE; rw [hfi]
    rw [hi] at hix
    clear hi hfi
    generalize v.length = vn at *
    generalize encs Vc.veC v = vc at *
    refine SCallF.of_body' (G := []) [none, some (48, 1)] (TT := TT) (fun k => decide (k < 2)) [true, false] ttok Try.func47 rfl (Nat.le_of_ble_eq_true rfl) rfl fun fx hfx hgf => WK.top ?_
    simp only [impl, imp, argT, packIV, pk, List.take_succ_cons, List.drop_succ_cons, List.take_zero, List.drop_zero, List.append_nil, List.map_nil, List.map_cons, List.nil_append, List.cons_append, List.length_cons, List.length_nil, show Try.f47.ntmps = 42 from rfl, Nat.zero_add, Nat.reduceAdd]
    have FX := h0
    repeat' (first | refine WK.seq ?_ | refine WK.reg ?_ | refine IL.nil ?_ | refine WK.skip ?_ | refine WK.block ?_ | refine WK.exit_here ?_ | refine WK.e1 ?_ | refine WK.e2 ?_ | (with_reducible refine IL.wr ?_ ?_; focus exact cW) | refine IL.sgF ttok ?_ | refine IL.cSF ttok ent48 [.bor, .own] false ?_ (hS := by exact hcm) | (refine IL.callSF [none, some (48, 1)] hgf (f := 69) (xs := ?_) (A := ?_) (A' := ?_) (rr := ?_) (σ' := ?_) (bs := ?_) (ks := ?_) (sets := ?_) (pushes := ?_) ttok ent69 [.own, .own] false ?_ ?_ ?_ ?_ ?_ ?_ ?_ ?_ ?_ ?_ (fun K hK => ?_) ?_; rotate_left 9; (focus exact cG); (focus rfl); (focus rfl); (focus (first | rfl | (simp only [go_sem, reduceIte, h0] <;> rfl))); (focus (exact hix)); (focus rfl); (focus rfl); (focus (first | rfl | simp only [go_sem])); (focus (first | rfl | (simp only [go_sem, reduceIte, h0] <;> rfl))); (focus simp); (focus (simp only [go_sem, reduceIte, h0]; exact cK hK))) | (refine WK.cn (fun h => ?_) (fun h => ?_); all_goals first | (simp only [reduceCtorEq] at h; done) | (simp only [hsA, hsD, hsE, ne_eq] at h; first | done | (exfalso; omega; done) | skip) | skip))
    refine WK.whileS (α := Nat × Nat × List EnV) (fun x => l.length - x.2.1) (fun x => DInv v l x.1 x.2.1 x.2.2) (fun x => ⟨42, [(0, .sl 0 0 0 l.length), (1, .fn (.func 48) [.ptr 1 0 0]), (5, .v (.int .i64 (x.1 : Nat))), (6, .v (.int .i64 (x.2.1 : Nat)))], [some ⟨true, 36, l.length, false, encs envC x.2.2, 0, false⟩, some ⟨false, 0, 1, false, [.tr vn vc], 0, false⟩]⟩) (p, p + 1, l) ⟨hD, ?_⟩ ?_
    · (refine Weak.renP 2 [0, 1] hfx (fun k h => of_decide_eq_true h) (fun k hk => by rcases (show k = 0 ∨ k = 1 by omega) with rfl | rfl <;> exact ⟨rfl, _, rfl, rfl⟩) rfl ?_ ?_ rfl <;> (simp only [go_sem, reduceIte, exists_eq_left', exists_eq_left, Blk.mk.injEq] <;> (try and_intros) <;> first | rfl | omega))
    · rintro ⟨i, j, R⟩ hI
      simp only at hI
      dsimp only
      have h12 := hI.1
      have h13 := hI.2.1
      have h14 := hI.2.2.1
      by_cases hj : j < l.length
      · have hx : R[j]? = some l[j] := hI.at hj
        have hcm := hcm0 _ (hl _ (List.getElem_mem hj))
        have hle : j * 6 + 6 ≤ R.length * 6 := by omega
        have hat : ((encs envC R).drop (j * 6)).take 6 = envC l[j] := encs_at envC_length hx
        have hne : encs envC R ≠ [] := encs_ne envC_length (by decide) hx
        have hset := encE_set R l[j] i (by omega)
        have hPa := hI.past hj
        have hKe := hI.keep hj
        have hli : i * 6 + 6 ≤ R.length * 6 := by omega
        rw [envC_eq l[j]] at hat hcm hset
        simp only [enT, enL, putAt] at hset
        clear hx hI hcm0 hix hD
        generalize pastE v l[j] = B at *
        generalize l[j] = x at *
        cases B with
        | true =>
          have FX := And.intro hat hle
          repeat' (first | refine WK.seq ?_ | refine WK.reg ?_ | refine IL.nil ?_ | refine WK.skip ?_ | refine WK.block ?_ | refine WK.exit_here ?_ | refine WK.e1 ?_ | refine WK.e2 ?_ | (with_reducible refine IL.wr ?_ ?_; focus exact cW) | refine IL.sgF ttok ?_ | refine IL.cSF ttok ent48 [.bor, .own] false ?_ (hS := by exact hcm) | (refine IL.callSF [none, some (48, 1)] hgf (f := 69) (xs := ?_) (A := ?_) (A' := ?_) (rr := ?_) (σ' := ?_) (bs := ?_) (ks := ?_) (sets := ?_) (pushes := ?_) ttok ent69 [.own, .own] false ?_ ?_ ?_ ?_ ?_ ?_ ?_ ?_ ?_ ?_ (fun K hK => ?_) ?_; rotate_left 9; (focus exact cG); (focus rfl); (focus rfl); (focus (first | rfl | (simp only [go_sem, reduceIte, hat, hle] <;> rfl))); (focus (exact hix)); (focus rfl); (focus rfl); (focus (first | rfl | simp only [go_sem])); (focus (first | rfl | (simp only [go_sem, reduceIte, hat, hle] <;> rfl))); (focus simp); (focus (simp only [go_sem, reduceIte, hat, hle]; exact cK hK))) | (refine WK.cn (fun h => ?_) (fun h => ?_); all_goals first | (simp only [reduceCtorEq] at h; done) | (simp only [hsA, hsD, hsE, ne_eq] at h; first | done | (exfalso; omega; done) | skip) | skip))
          refine ⟨(i, j + 1, R), by simp only; omega, hPa rfl, ?_⟩
          (refine Weak.renP 2 [0, 1] hfx (fun k h => of_decide_eq_true h) (fun k hk => by rcases (show k = 0 ∨ k = 1 by omega) with rfl | rfl <;> exact ⟨rfl, _, rfl, rfl⟩) rfl ?_ ?_ rfl <;> (simp only [go_sem, reduceIte, exists_eq_left', exists_eq_left, Blk.mk.injEq] <;> (try and_intros) <;> first | rfl | omega))
        | false =>
          have FX := And.intro hat (And.intro hle (And.intro hset hli))
          repeat' (first | refine WK.seq ?_ | refine WK.reg ?_ | refine IL.nil ?_ | refine WK.skip ?_ | refine WK.block ?_ | refine WK.exit_here ?_ | refine WK.e1 ?_ | refine WK.e2 ?_ | (with_reducible refine IL.wr ?_ ?_; focus exact cW) | refine IL.sgF ttok ?_ | refine IL.cSF ttok ent48 [.bor, .own] false ?_ (hS := by exact hcm) | (refine IL.callSF [none, some (48, 1)] hgf (f := 69) (xs := ?_) (A := ?_) (A' := ?_) (rr := ?_) (σ' := ?_) (bs := ?_) (ks := ?_) (sets := ?_) (pushes := ?_) ttok ent69 [.own, .own] false ?_ ?_ ?_ ?_ ?_ ?_ ?_ ?_ ?_ ?_ (fun K hK => ?_) ?_; rotate_left 9; (focus exact cG); (focus rfl); (focus rfl); (focus (first | rfl | (simp only [go_sem, reduceIte, hat, hle, hset, hli] <;> rfl))); (focus (exact hix)); (focus rfl); (focus rfl); (focus (first | rfl | simp only [go_sem])); (focus (first | rfl | (simp only [go_sem, reduceIte, hat, hle, hset, hli] <;> rfl))); (focus simp); (focus (simp only [go_sem, reduceIte, hat, hle, hset, hli]; exact cK hK))) | (refine WK.cn (fun h => ?_) (fun h => ?_); all_goals first | (simp only [reduceCtorEq] at h; done) | (simp only [hsA, hsD, hsE, ne_eq] at h; first | done | (exfalso; omega; done) | skip) | skip))
          refine ⟨(i + 1, j + 1, R.set i x), by simp only; omega, hKe rfl, ?_⟩
          (refine Weak.renP 2 [0, 1] hfx (fun k h => of_decide_eq_true h) (fun k hk => by rcases (show k = 0 ∨ k = 1 by omega) with rfl | rfl <;> exact ⟨rfl, _, rfl, rfl⟩) rfl ?_ ?_ rfl <;> (simp only [go_sem, reduceIte, exists_eq_left', exists_eq_left, Blk.mk.injEq, hset] <;> (try and_intros) <;> first | rfl | omega))
      · obtain ⟨hd1, hd2⟩ := hI.done hj
        have hcut : ∀ z, (putAt (encs envC R) (i * 6) z).take (i * 6) = encs envC (keepE v l) := fun z => by rw [take_putAt _ _ _ _ (Nat.le_refl _), encs_take envC_length, hd1]
        rw [hd2]
        clear hI hcm0 hix hD
        generalize encs envC (keepE v l) = Z at *
        generalize encs envC R = L at *
        have hin : i ≤ l.length := by omega
        have hjn : j = l.length := by omega
        subst hjn
        repeat' (first | refine WK.seq ?_ | refine WK.reg ?_ | refine IL.nil ?_ | refine WK.skip ?_ | refine WK.block ?_ | refine WK.exit_here ?_ | refine WK.e1 ?_ | refine WK.e2 ?_ | (with_reducible refine IL.wr ?_ ?_; focus exact cW) | refine IL.sg ttok ?_ | refine IL.cS ttok ent48 [.bor, .own] false ?_ (hS := by exact hcm) | (refine IL.callSF [none, some (48, 1)] hgf (f := 69) (xs := ?_) (A := ?_) (A' := ?_) (rr := ?_) (σ' := ?_) (bs := ?_) (ks := ?_) (sets := ?_) (pushes := ?_) ttok ent69 [.own, .own] false ?_ ?_ ?_ ?_ ?_ ?_ ?_ ?_ ?_ ?_ (fun K hK => ?_) ?_; rotate_left 9; (focus exact cG); (focus rfl); (focus rfl); (focus (first | rfl | (simp only [go_sem, reduceIte] <;> rfl))); (focus (exact hix)); (focus rfl); (focus rfl); (focus (first | rfl | simp only [go_sem])); (focus (first | rfl | (simp only [go_sem, reduceIte] <;> rfl))); (focus simp); (focus (simp only [go_sem, reduceIte]; exact cK hK))) | (refine WK.cn (fun h => ?_) (fun h => ?_); all_goals first | (simp only [reduceCtorEq] at h; done) | (simp only [hsA, hsD, hsE, ne_eq] at h; first | done | (exfalso; omega; done) | skip) | skip))
        refine IL.clearT (σ' := ⟨_, _, _⟩) ttok ?_ (.inl rfl) rfl rfl rfl rfl rfl rfl rfl rfl ⟨rfl, rfl, rfl, (by show i + (l.length - i) ≤ l.length; omega)⟩ (fun h => by cases h) (fun K hK => (show fin _ _ _ _ K from hK))
        repeat' (first | refine WK.seq ?_ | refine WK.reg ?_ | refine IL.nil ?_ | refine WK.skip ?_ | refine WK.block ?_ | refine WK.exit_here ?_ | refine WK.e1 ?_ | refine WK.e2 ?_ | (with_reducible refine IL.wr ?_ ?_; focus exact cW) | refine IL.sg ttok ?_ | refine IL.cS ttok ent48 [.bor, .own] false ?_ (hS := by exact hcm) | (refine IL.callSF [none, some (48, 1)] hgf (f := 69) (xs := ?_) (A := ?_) (A' := ?_) (rr := ?_) (σ' := ?_) (bs := ?_) (ks := ?_) (sets := ?_) (pushes := ?_) ttok ent69 [.own, .own] false ?_ ?_ ?_ ?_ ?_ ?_ ?_ ?_ ?_ ?_ (fun K hK => ?_) ?_; rotate_left 9; (focus exact cG); (focus rfl); (focus rfl); (focus (first | rfl | (simp only [go_sem, reduceIte] <;> rfl))); (focus (exact hix)); (focus rfl); (focus rfl); (focus (first | rfl | simp only [go_sem])); (focus (first | rfl | (simp only [go_sem, reduceIte] <;> rfl))); (focus simp); (focus (simp only [go_sem, reduceIte]; exact cK hK))) | (refine WK.cn (fun h => ?_) (fun h => ?_); all_goals first | (simp only [reduceCtorEq] at h; done) | (simp only [hsA, hsD, hsE, ne_eq] at h; first | done | (exfalso; omega; done) | skip) | skip))
        refine WK.weak (Weak.cutRow ttok (k := 0) (d := 4) (i := i) rfl rfl rfl rfl hin rfl) ?_
        simp only [List.set_cons_zero, Nat.zero_add, hcut]
        all_goals try ((first | refine WK.ret ⟨.inr rfl, ?_⟩ | refine ⟨.inl rfl, ?_⟩ | refine ⟨.inl trivial, ?_⟩); refine Fin.o ?_ ?_ (h1 := by first | rfl | (simp only [go_sem, show Try.f47.results.toList = [.tmp 4] from rfl, reduceIte] <;> rfl)); rotate_left 1; (focus (first | rfl | skip)); all_goals try with_reducible rfl)
        all_goals skip
end Go.Proofs.Ytclhjcbnpdlgbaa
/- package hold: Drop. -/
namespace Go.Proofs.Ytclhjcbnpdlgbaa
open Go Go.Lift
set_option maxHeartbeats 4000000
set_option linter.unusedSimpArgs false
set_option linter.unusedVariables false
attribute [local irreducible] WK IL IP IG IW DW

theorem ixE0_call (y : Value) : SCallF [] Try.prog 69 [none, some (48, 1)] [.tr 0 [], .obj [.v y]] (.v (.int .i64 (-1))) [.tr 0 [], .obj [.v y]] := by
  refine SCallF.of_body' (G := []) [none, some (48, 1)] (TT := TT) (fun k => decide (k < 1)) [false, false] ttok Try.func69 rfl (Nat.le_of_ble_eq_true rfl) rfl fun fx hfx hgf => WK.top ?_
  simp only [impl, imp, argT, packIV, pk, List.take_succ_cons, List.drop_succ_cons, List.take_zero, List.drop_zero, List.append_nil, List.map_nil, List.map_cons, List.nil_append, List.cons_append, List.length_cons, List.length_nil, show Try.f69.ntmps = 19 from rfl, Nat.zero_add, Nat.reduceAdd]
  repeat' (first | refine WK.seq ?_ | refine WK.reg ?_ | refine IL.nil ?_ | refine WK.skip ?_ | refine WK.block ?_ | refine WK.exit_here ?_ | refine WK.e1 ?_ | refine WK.e2 ?_ | (with_reducible refine IL.wr ?_ ?_; focus exact cW) | refine IL.sg ttok ?_ | (refine WK.cn (fun h => ?_) (fun h => ?_); all_goals first | (simp only [reduceCtorEq] at h; done) | (simp only [hsA, hsD, hsE, ne_eq] at h; first | done | (exfalso; omega; done) | skip) | skip))
  refine WK.forS 0 (fun k => True) (fun k => ⟨19, [(7, .v (.int .i64 (0 : Nat))), (8, .v (.int .i64 k))], [some ⟨false, 0, 1, false, [.v y], 0, false⟩]⟩) ⟨trivial, ?_⟩ (fun k hk ho => absurd hk (Nat.not_lt_zero k)) (fun ho => ?_)
  · (refine Weak.renP 1 [0] hfx (fun k h => of_decide_eq_true h) (fun k hk => by obtain rfl : k = 0 := (by omega); exact ⟨rfl, _, rfl, rfl⟩) rfl ?_ ?_ rfl <;> (simp only [go_sem, reduceIte, exists_eq_left', exists_eq_left, Blk.mk.injEq] <;> (try and_intros) <;> first | rfl | omega))
  · repeat' (first | refine WK.seq ?_ | refine WK.reg ?_ | refine IL.nil ?_ | refine WK.skip ?_ | refine WK.block ?_ | refine WK.exit_here ?_ | refine WK.e1 ?_ | refine WK.e2 ?_ | (with_reducible refine IL.wr ?_ ?_; focus exact cW) | refine IL.sg ttok ?_ | (refine WK.cn (fun h => ?_) (fun h => ?_); all_goals first | (simp only [reduceCtorEq] at h; done) | (simp only [hsA, hsD, hsE, ne_eq] at h; first | done | (exfalso; omega; done) | skip) | skip))
    all_goals try ((first | refine WK.ret ⟨.inr rfl, ?_⟩ | refine ⟨.inl rfl, ?_⟩ | refine ⟨.inl trivial, ?_⟩); refine Fin.o ?_ ?_ (h1 := by first | rfl | (simp only [go_sem, show Try.f69.results.toList = [.tmp 4] from rfl, reduceIte] <;> rfl)); rotate_left 1; (focus (first | rfl | skip)); all_goals try with_reducible rfl)
    all_goals skip
theorem delF0_call (v : List Vc.Ve) : SCallF [] Try.prog 47 [none, some (48, 1)] [.own 36 0 false [], .obj [.tr v.length (encs Vc.veC v)]] (.own 36 0 false []) [.gone, .obj [.tr v.length (encs Vc.veC v)]] := by
  refine SCallF.opq (by first | rfl | simp [idFree]) fun y => ?_
  have hix := ixE0_call y
  refine SCallF.of_body' (G := []) [none, some (48, 1)] (TT := TT) (fun k => decide (k < 2)) [true, false] ttok Try.func47 rfl (Nat.le_of_ble_eq_true rfl) rfl fun fx hfx hgf => WK.top ?_
  simp only [impl, imp, argT, packIV, pk, List.take_succ_cons, List.drop_succ_cons, List.take_zero, List.drop_zero, List.append_nil, List.map_nil, List.map_cons, List.nil_append, List.cons_append, List.length_cons, List.length_nil, show Try.f47.ntmps = 42 from rfl, Nat.zero_add, Nat.reduceAdd]
  repeat' (first | refine WK.seq ?_ | refine WK.reg ?_ | refine IL.nil ?_ | refine WK.skip ?_ | refine WK.block ?_ | refine WK.exit_here ?_ | refine WK.e1 ?_ | refine WK.e2 ?_ | (with_reducible refine IL.wr ?_ ?_; focus exact cW) | refine IL.sg ttok ?_ | (refine IL.callSF [none, some (48, 1)] hgf (f := 69) (xs := ?_) (A := ?_) (A' := ?_) (rr := ?_) (σ' := ?_) (bs := ?_) (ks := ?_) (sets := ?_) (pushes := ?_) ttok ent69 [.bor, .own] true ?_ ?_ ?_ ?_ ?_ ?_ ?_ ?_ ?_ ?_ (fun K hK => ?_) ?_; rotate_left 9; (focus exact cG); (focus rfl); (focus rfl); (focus (first | rfl | (simp only [go_sem, reduceIte] <;> rfl))); (focus (exact hix)); (focus rfl); (focus rfl); (focus (first | rfl | simp only [go_sem])); (focus (first | rfl | (simp only [go_sem, reduceIte] <;> rfl))); (focus simp); (focus (simp only [go_sem, reduceIte]; exact cK hK))) | (refine WK.cn (fun h => ?_) (fun h => ?_); all_goals first | (simp only [reduceCtorEq] at h; done) | (simp only [hsA, hsD, hsE, ne_eq] at h; first | done | (exfalso; omega; done) | skip) | skip))
  all_goals try ((first | refine WK.ret ⟨.inr rfl, ?_⟩ | refine ⟨.inl rfl, ?_⟩ | refine ⟨.inl trivial, ?_⟩); refine Fin.o ?_ ?_ (h1 := by first | rfl | (simp only [go_sem, show Try.f47.results.toList = [.tmp 4] from rfl, reduceIte] <;> rfl)); rotate_left 1; (focus (first | rfl | skip)); all_goals try with_reducible rfl)
  all_goals skip
theorem delF1_call (l : List EnV) (v : List Vc.Ve) (hl : ∀ x ∈ l, okE x) (hn : l.length ≤ 100000) (hv : Vc.Vec v) (hvl : v.length ≤ 100000) :
    SCallF [] Try.prog 47 [none, some (48, 1)] [.own 36 l.length false (encs envC l), .obj [.tr v.length (encs Vc.veC v)]] (.own 36 (keepE v l).length false (encs envC (keepE v l))) [.gone, .obj [.tr v.length (encs Vc.veC v)]] := by
  cases l with
  | nil => exact delF0_call v
  | cons a l => exact delF_call (a :: l) v (by simp) hl hn hv hvl
theorem drop_call (l : List EnV) (v : List Vc.Ve) (hl : ∀ x ∈ l, okE x) (hn : l.length ≤ 100000) (hv : Vc.Vec v) (hvl : v.length ≤ 100000) :
    SCall Try.prog 22 [bufO l, .tr v.length (encs Vc.veC v)] (.v (.int .i64 ((l.length : Int) - (keepE v l).length))) [bufO (keepE v l), .tr v.length (encs Vc.veC v)] := by
  have hde := delF1_call l v hl hn hv hvl
  have hkl : (keepE v l).length ≤ l.length := List.length_filter_le _ _
  have hw : IntKind.i64.wrap ((l.length : Int) - ((keepE v l).length : Int)) = (l.length : Int) - ((keepE v l).length : Int) := wrap_i64 (by omega) (by omega)
  generalize keepE v l = K at *
  generalize v.length = vn at *
  generalize encs Vc.veC v = vc at *
  refine SCallG.toS ?_
  refine SCallG.of_body' (G := []) (TT := TT) (fun k => decide (k < 1)) [false, false] ttok Try.func22 rfl (Nat.le_of_ble_eq_true rfl) rfl fun fx hfx hgf => WK.top ?_
  simp only [impl, imp, argT, List.append_nil, List.map_nil, List.map_cons, List.nil_append, List.cons_append, List.length_cons, List.length_nil, show Try.f22.ntmps = 27 from rfl, Nat.zero_add, Nat.reduceAdd]
  have FX := hw
  repeat' (first | refine WK.seq ?_ | refine WK.reg ?_ | refine IL.nil ?_ | (with_reducible refine IL.wr ?_ ?_; focus exact cW) | refine IL.sgF ttok ?_ | (refine IL.mkfn (σ' := ?_) (vs := ?_) cG rfl ?_ (fun K hK => ?_) ?_; rotate_left 2; (focus rfl); (focus (simp only [go_sem, reduceIte, hw]; exact hK))) | (refine IL.callSF [none, some (48, 1)] hgf (f := 47) (xs := ?_) (A := ?_) (A' := ?_) (rr := ?_) (σ' := ?_) (bs := ?_) (ks := ?_) (sets := ?_) (pushes := ?_) ttok ent47 [.own, .own] false ?_ ?_ ?_ ?_ ?_ ?_ ?_ ?_ ?_ ?_ (fun K hK => ?_) ?_; rotate_left 9; (focus exact cG); (focus rfl); (focus rfl); (focus (first | rfl | (simp only [go_sem, reduceIte, hw] <;> rfl))); (focus (exact hde)); (focus rfl); (focus rfl); (focus (first | rfl | simp only [go_sem])); (focus (first | rfl | (simp only [go_sem, reduceIte, hw] <;> rfl))); (focus simp); (focus (simp only [go_sem, reduceIte, hw]; exact cK hK))))
  all_goals try ((first | refine WK.ret ⟨.inr rfl, ?_⟩ | refine ⟨.inl rfl, ?_⟩ | refine ⟨.inl trivial, ?_⟩); refine Fin.o ?_ ?_ (h1 := by first | rfl | (simp only [go_sem, show Try.f22.results.toList = [.tmp 4] from rfl, reduceIte] <;> rfl)); rotate_left 1; (focus (first | rfl | skip)); all_goals try with_reducible rfl)
  all_goals skip
end Go.Proofs.Ytclhjcbnpdlgbaa
/- the document's buffer: a list. -/
namespace Go.Proofs.Ytclhjcbnpdlgbaa
open Go Go.Lift
set_option maxHeartbeats 4000000
set_option linter.unusedSimpArgs false
set_option linter.unusedVariables false
attribute [local irreducible] WK IL IP IG IW DW

theorem ready11_call (l : List EnV) (v : List Vc.Ve) (hv : Vc.Vec v) (hvl : v.length ≤ 100000) (hl : ∀ x ∈ l, okE x) (hn : l.length ≤ 100000) (V : Int) (hN : (∀ x ∈ l, rdyE v x = false) → V = -1) (hF : ∀ (k : Nat) (x : EnV), l[k]? = some x → (∀ y ∈ l.take k, rdyE v y = false) → rdyE v x = true → V = (k : Int)) :
    SCall Try.prog 26 [.tr l.length (encs envC l), .tr v.length (encs Vc.veC v)] (.v (.int .i64 V)) [.tr l.length (encs envC l), .tr v.length (encs Vc.veC v)] := by
  have hr0 := fun (e : EnV) (he : okE e) => refReady_call e.d v e.r e.s e.c e.u e.ops he.1 hv he.2.1 he.2.2.1 he.2.2.2 hvl
  refine SCall.of_body' (TT := TT) (fun _ => false) [false, false] ttok Try.func26 rfl (Nat.le_of_ble_eq_true rfl) rfl fun fx hfx => WK.top ?_
  simp only [impl, imp, argT, List.append_nil, List.map_nil, List.nil_append, show Try.f26.ntmps = 19 from rfl, Nat.zero_add, Nat.reduceAdd]
  repeat' (first | refine WK.seq ?_ | refine WK.reg ?_ | refine IL.nil ?_ | refine WK.skip ?_ | refine WK.block ?_ | refine WK.exit_here ?_ | refine WK.e1 ?_ | refine WK.e2 ?_ | (with_reducible refine IL.wr ?_ ?_; focus exact cW) | refine IL.sg ttok ?_ | refine IL.cS ttok ent13 [.bor, .bor] true ?_ (hS := by exact hrr) | (refine WK.cn (fun h => ?_) (fun h => ?_); all_goals first | (simp only [reduceCtorEq] at h; done) | (simp only [hsA, hsD, hsE, ne_eq] at h; first | done | (exfalso; omega; done) | skip) | skip))
  refine WK.forS l.length (fun k => ∀ y ∈ l.take k, rdyE v y = false) (fun k => ⟨19, [(0, .tr l.length (encs envC l)), (1, .tr v.length (encs Vc.veC v)), (5, .v (.int .i64 k))], []⟩) ⟨by simp, ?_⟩ (fun k hk ho => ?_) (fun ho => ?_)
  · (refine Weak.renS [] hfx rfl ?_ ?_ rfl <;> (simp only [go_sem, reduceIte, exists_eq_left', exists_eq_left, Blk.mk.injEq] <;> (try and_intros) <;> first | rfl | omega))
  · have hx : l[k]? = some l[k] := List.getElem?_eq_getElem hk
    have hle : k * 6 + 6 ≤ l.length * 6 := by omega
    have hat : ((encs envC l).drop (k * 6)).take 6 = envC l[k] := encs_at envC_length hx
    have hne : encs envC l ≠ [] := encs_ne envC_length (by decide) hx
    have hrr := hr0 _ (hl _ (List.getElem_mem hk))
    rw [show (decide (Vc.getV v l[k].r = l[k].s - 1) && Vc.covV v l[k].d) = rdyE v l[k] from rfl] at hrr
    have hyes := hF k _ hx ho
    have hno : rdyE v l[k] = false → ∀ y ∈ l.take (k + 1), rdyE v y = false := fun h y hy => by
      rw [List.take_add_one, hx] at hy
      rcases List.mem_append.1 hy with hy | hy
      · exact ho y hy
      · simp at hy; rw [hy]; exact h
    rw [envC_eq] at hat
    clear hr0 hx hF hN
    generalize rdyE v l[k] = B at *
    generalize l[k] = x at *
    cases B with
    | true =>
      rw [hyes rfl]
      have FX := And.intro hat hle
      repeat' (first | refine WK.seq ?_ | refine WK.reg ?_ | refine IL.nil ?_ | refine WK.skip ?_ | refine WK.block ?_ | refine WK.exit_here ?_ | refine WK.e1 ?_ | refine WK.e2 ?_ | (with_reducible refine IL.wr ?_ ?_; focus exact cW) | refine IL.sgF ttok ?_ | refine IL.cSF ttok ent13 [.bor, .bor] true ?_ (hS := by exact hrr) | (refine WK.cn (fun h => ?_) (fun h => ?_); all_goals first | (simp only [reduceCtorEq] at h; done) | (simp only [hsA, hsD, hsE, ne_eq] at h; first | done | (exfalso; omega; done) | skip) | skip))
      all_goals try ((first | refine WK.ret ⟨.inr rfl, ?_⟩ | refine ⟨.inl rfl, ?_⟩ | refine ⟨.inl trivial, ?_⟩); refine Fin.o ?_ ?_ (h1 := by first | rfl | (simp only [go_sem, show Try.f26.results.toList = [.tmp 4] from rfl, reduceIte] <;> rfl)); rotate_left 1; (focus (first | rfl | skip)); all_goals try with_reducible rfl)
      all_goals skip
    | false =>
      have FX := And.intro hat hle
      repeat' (first | refine WK.seq ?_ | refine WK.reg ?_ | refine IL.nil ?_ | refine WK.skip ?_ | refine WK.block ?_ | refine WK.exit_here ?_ | refine WK.e1 ?_ | refine WK.e2 ?_ | (with_reducible refine IL.wr ?_ ?_; focus exact cW) | refine IL.sgF ttok ?_ | refine IL.cSF ttok ent13 [.bor, .bor] true ?_ (hS := by exact hrr) | (refine WK.cn (fun h => ?_) (fun h => ?_); all_goals first | (simp only [reduceCtorEq] at h; done) | (simp only [hsA, hsD, hsE, ne_eq] at h; first | done | (exfalso; omega; done) | skip) | skip))
      refine ⟨hno rfl, ?_⟩
      (refine Weak.renS [] hfx rfl ?_ ?_ rfl <;> (simp only [go_sem, reduceIte, exists_eq_left', exists_eq_left, Blk.mk.injEq] <;> (try and_intros) <;> first | rfl | omega))
  · rw [List.take_length] at ho
    rw [hN ho]
    repeat' (first | refine WK.seq ?_ | refine WK.reg ?_ | refine IL.nil ?_ | refine WK.skip ?_ | refine WK.block ?_ | refine WK.exit_here ?_ | refine WK.e1 ?_ | refine WK.e2 ?_ | (with_reducible refine IL.wr ?_ ?_; focus exact cW) | refine IL.sg ttok ?_ | refine IL.cS ttok ent13 [.bor, .bor] true ?_ (hS := by exact hrr) | (refine WK.cn (fun h => ?_) (fun h => ?_); all_goals first | (simp only [reduceCtorEq] at h; done) | (simp only [hsA, hsD, hsE, ne_eq] at h; first | done | (exfalso; omega; done) | skip) | skip))
    all_goals try ((first | refine WK.ret ⟨.inr rfl, ?_⟩ | refine ⟨.inl rfl, ?_⟩ | refine ⟨.inl trivial, ?_⟩); refine Fin.o ?_ ?_ (h1 := by first | rfl | (simp only [go_sem, show Try.f26.results.toList = [.tmp 4] from rfl, reduceIte] <;> rfl)); rotate_left 1; (focus (first | rfl | skip)); all_goals try with_reducible rfl)
    all_goals skip
theorem refPastE_call (e : EnV) (v : List Vc.Ve) (he : okE e) (hv : Vc.Vec v) (hvl : v.length ≤ 100000) : SCall Try.prog 52 [.agg (envC e), .tr v.length (encs Vc.veC v)] (.v (.bool (pastE v e))) [.agg (envC e), .tr v.length (encs Vc.veC v)] := by
  have hrg := Vc.refGet_call v e.r hv.s (by omega)
  unfold pastE
  rw [envC_eq]
  generalize Vc.getV v e.r = g at *
  refine SCall.of_body' (TT := TT) (fun _ => false) [false, false] ttok Try.func52 rfl (Nat.le_of_ble_eq_true rfl) rfl fun fx hfx => WK.top ?_
  simp only [impl, imp, argT, List.append_nil, List.map_nil, List.nil_append, show Try.f52.ntmps = 14 from rfl, Nat.zero_add, Nat.reduceAdd]
  repeat' (first | refine WK.seq ?_ | refine WK.reg ?_ | refine IL.nil ?_ | refine WK.drawnS (id := 1) mixed [] [4] [0, 0, 0, 0, 0, 0, 0, 0, 1, 1] [0, 0, 0, 0, 0, 1, 1, 1, 1, 1] (by decide +kernel) ?_ | refine DW.nil ?_ | (with_reducible refine IL.wr ?_ ?_; focus exact cW) | (with_reducible refine DW.wr ?_ ?_; focus exact cW) | refine IL.sg ttok ?_ | refine DW.re ttok ?_ | refine DW.rm ttok ?_ | refine DW.cS ttok ent21 [.bor, .bor] true ?_ (hS := by exact hrg))
  all_goals try ((first | refine WK.ret ⟨.inr rfl, ?_⟩ | refine ⟨.inl rfl, ?_⟩ | refine ⟨.inl trivial, ?_⟩); refine Fin.o ?_ ?_ (h1 := by first | rfl | (simp only [go_sem, show Try.f52.results.toList = [.tmp 4] from rfl, reduceIte] <;> rfl)); rotate_left 1; (focus (first | rfl | skip)); all_goals try with_reducible rfl)
  all_goals skip
theorem drop11_call (l : List EnV) (v : List Vc.Ve) (hv : Vc.Vec v) (hvl : v.length ≤ 100000) (hl : ∀ x ∈ l, okE x) (hn : l.length ≤ 100000) :
    SCall Try.prog 29 [.tr l.length (encs envC l), .tr v.length (encs Vc.veC v)] (.own 49 (keepE v l).length false (encs envC (keepE v l))) [.tr l.length (encs envC l), .tr v.length (encs Vc.veC v)] := by
  have hp0 := fun (e : EnV) (he : okE e) => refPastE_call e v he hv hvl
  refine SCall.of_body' (TT := TT) (fun _ => false) [false, false] ttok Try.func29 rfl (Nat.le_of_ble_eq_true rfl) rfl fun fx hfx => WK.top ?_
  simp only [impl, imp, argT, List.append_nil, List.map_nil, List.nil_append, show Try.f29.ntmps = 28 from rfl, Nat.zero_add, Nat.reduceAdd]
  repeat' (first | refine WK.seq ?_ | refine WK.reg ?_ | refine IL.nil ?_ | refine WK.skip ?_ | refine WK.block ?_ | refine WK.exit_here ?_ | refine WK.e1 ?_ | refine WK.e2 ?_ | (with_reducible refine IL.wr ?_ ?_; focus exact cW) | refine IL.sg ttok ?_ | refine IL.cS ttok ent52 [.bor, .bor] true ?_ (hS := by exact hpa) | (refine WK.cn (fun h => ?_) (fun h => ?_); all_goals first | (simp only [reduceCtorEq] at h; done) | (simp only [hsA, hsD, hsE, ne_eq] at h; first | done | (exfalso; omega; done) | skip) | skip))
  refine WK.forS l.length (fun k => True) (fun k => ⟨28, [(0, .tr l.length (encs envC l)), (1, .tr v.length (encs Vc.veC v)), (5, .sl 0 0 0 (keepE v (l.take k)).length), (6, .v (.int .i64 k))], [some ⟨true, 49, (keepE v (l.take k)).length, false, encs envC (keepE v (l.take k)), 0, false⟩]⟩) ⟨trivial, ?_⟩ (fun k hk ho => ?_) (fun ho => ?_)
  · rw [List.take_zero, show keepE v [] = [] from rfl]
    (refine Weak.renS [1] hfx rfl ?_ ?_ rfl <;> (simp only [go_sem, reduceIte, exists_eq_left', exists_eq_left, Blk.mk.injEq, List.length_nil, encs_nil] <;> (try and_intros) <;> first | rfl | omega))
  · have hx : l[k]? = some l[k] := List.getElem?_eq_getElem hk
    have hle : k * 6 + 6 ≤ l.length * 6 := by omega
    have hat : ((encs envC l).drop (k * 6)).take 6 = envC l[k] := encs_at envC_length hx
    have hne : encs envC l ≠ [] := encs_ne envC_length (by decide) hx
    have hpa := hp0 _ (hl _ (List.getElem_mem hk))
    have hkl : (keepE v (l.take k)).length ≤ k := Nat.le_trans (List.length_filter_le _ _) (by rw [List.length_take]; omega)
    have htk : keepE v (l.take (k + 1)) = keepE v (l.take k) ++ (if pastE v l[k] = true then [] else [l[k]]) := by
      unfold keepE
      rw [List.take_add_one, hx, List.filter_append]
      cases h : pastE v l[k] <;> simp [h]
    rw [htk]
    rw [envC_eq] at hat hpa
    generalize keepE v (l.take k) = out at *
    have hcs : encs envC out ++ enT l[k].d l[k].r l[k].s l[k].c l[k].u l[k].ops = encs envC (out ++ [l[k]]) := encs_snoc (f := envC) out l[k]
    have hln : (out ++ [l[k]]).length = out.length + 1 := by simp
    clear hx htk hp0
    generalize pastE v l[k] = B at *
    generalize l[k] = x at *
    cases B with
    | true =>
      rw [if_pos rfl, List.append_nil]
      have FX := And.intro hat hle
      repeat' (first | refine WK.seq ?_ | refine WK.reg ?_ | refine IL.nil ?_ | refine WK.skip ?_ | refine WK.block ?_ | refine WK.exit_here ?_ | refine WK.e1 ?_ | refine WK.e2 ?_ | (with_reducible refine IL.wr ?_ ?_; focus exact cW) | refine IL.sgF ttok ?_ | refine IL.cSF ttok ent52 [.bor, .bor] true ?_ (hS := by exact hpa) | (refine WK.cn (fun h => ?_) (fun h => ?_); all_goals first | (simp only [reduceCtorEq] at h; done) | (simp only [hsA, hsD, hsE, ne_eq] at h; first | done | (exfalso; omega; done) | skip) | skip))
      refine ⟨trivial, ?_⟩
      (refine Weak.renS [0] hfx rfl ?_ ?_ rfl <;> (simp only [go_sem, reduceIte, exists_eq_left', exists_eq_left, Blk.mk.injEq] <;> (try and_intros) <;> first | rfl | omega))
    | false =>
      rw [if_neg (by decide)]
      have FX := And.intro hat hle
      repeat' (first | refine WK.seq ?_ | refine WK.reg ?_ | refine IL.nil ?_ | refine WK.skip ?_ | refine WK.block ?_ | refine WK.exit_here ?_ | refine WK.e1 ?_ | refine WK.e2 ?_ | (with_reducible refine IL.wr ?_ ?_; focus exact cW) | refine IL.sgF ttok ?_ | refine IL.cSF ttok ent52 [.bor, .bor] true ?_ (hS := by exact hpa) | (refine WK.cn (fun h => ?_) (fun h => ?_); all_goals first | (simp only [reduceCtorEq] at h; done) | (simp only [hsA, hsD, hsE, ne_eq] at h; first | done | (exfalso; omega; done) | skip) | skip))
      refine ⟨trivial, ?_⟩
      (refine Weak.renS [0] hfx rfl ?_ ?_ rfl <;> (simp only [go_sem, reduceIte, exists_eq_left', exists_eq_left, Blk.mk.injEq, hln, hcs] <;> (try and_intros) <;> first | rfl | omega))
  · rw [List.take_length]
    repeat' (first | refine WK.seq ?_ | refine WK.reg ?_ | refine IL.nil ?_ | refine WK.skip ?_ | refine WK.block ?_ | refine WK.exit_here ?_ | refine WK.e1 ?_ | refine WK.e2 ?_ | (with_reducible refine IL.wr ?_ ?_; focus exact cW) | refine IL.sg ttok ?_ | refine IL.cS ttok ent52 [.bor, .bor] true ?_ (hS := by exact hpa) | (refine WK.cn (fun h => ?_) (fun h => ?_); all_goals first | (simp only [reduceCtorEq] at h; done) | (simp only [hsA, hsD, hsE, ne_eq] at h; first | done | (exfalso; omega; done) | skip) | skip))
    all_goals try ((first | refine WK.ret ⟨.inr rfl, ?_⟩ | refine ⟨.inl rfl, ?_⟩ | refine ⟨.inl trivial, ?_⟩); refine Fin.o ?_ ?_ (h1 := by first | rfl | (simp only [go_sem, show Try.f29.results.toList = [.tmp 4] from rfl, reduceIte] <;> rfl)); rotate_left 1; (focus (first | rfl | skip)); all_goals try with_reducible rfl)
    all_goals skip
end Go.Proofs.Ytclhjcbnpdlgbaa
/- the document's buffer: who stands ahead; has, put, without. -/
namespace Go.Proofs.Ytclhjcbnpdlgbaa
open Go Go.Lift
set_option maxHeartbeats 4000000
set_option linter.unusedSimpArgs false
set_option linter.unusedVariables false
attribute [local irreducible] WK IL IP IG IW DW

theorem ahead_call (a e : EnV) (na : nb a) (ne : nb e) : SCall Try.prog 50 [.agg (envC a), .agg (envC e)] (.v (.bool (decide (kE a < kE e)))) [.agg (envC a), .agg (envC e)] := by
  have hk : kE a < kE e ↔ a.r < e.r ∨ (a.r = e.r ∧ a.s < e.s) := by
    unfold nb at na ne
    unfold kE kN
    omega
  rw [envC_eq, envC_eq]
  by_cases h1 : a.r < e.r
  · have hlt := decide_eq_true h1
    rw [decide_eq_true (hk.2 (.inl h1))]
    clear hk na ne
    refine SCall.of_body' (TT := TT) (fun _ => false) [false, false] ttok Try.func50 rfl (Nat.le_of_ble_eq_true rfl) rfl fun fx hfx => WK.top ?_
    simp only [impl, imp, argT, List.append_nil, List.map_nil, List.nil_append, show Try.f50.ntmps = 30 from rfl, Nat.zero_add, Nat.reduceAdd]
    have FX := hlt
    repeat' (first | refine WK.seq ?_ | refine WK.reg ?_ | refine IL.nil ?_ | (with_reducible refine IL.wr ?_ ?_; focus exact cW) | refine IL.sgF ttok ?_ | refine IL.nn ?_ | (((first | refine IL.ag (fun h => ?_) (fun h => ?_) | refine IL.ap (fun h => ?_) (fun h => ?_)); (fail_if_success (focus (simp only [reduceCtorEq] at h)))); all_goals first | (simp only [reduceCtorEq] at h; done) | (simp only [hsA, hsD, hsE, ne_eq] at h; first | done | (exfalso; omega; done) | skip) | skip))
    all_goals try ((first | refine WK.ret ⟨.inr rfl, ?_⟩ | refine ⟨.inl rfl, ?_⟩ | refine ⟨.inl trivial, ?_⟩); refine Fin.o ?_ ?_ (h1 := by first | rfl | (simp only [go_sem, show Try.f50.results.toList = [.tmp 4] from rfl, reduceIte] <;> rfl)); rotate_left 1; (focus (first | rfl | skip)); all_goals try with_reducible rfl)
    all_goals skip
  have hlt := decide_eq_false h1
  by_cases h2 : a.r = e.r
  · have heq : (a.r == e.r) = true := beq_iff_eq.2 h2
    rw [show decide (kE a < kE e) = decide (a.s < e.s) by rw [decide_eq_decide, hk]; exact ⟨fun h => h.elim (fun h => absurd h h1) (fun h => h.2), fun h => .inr ⟨h2, h⟩⟩]
    clear hk na ne h2
    refine SCall.of_body' (TT := TT) (fun _ => false) [false, false] ttok Try.func50 rfl (Nat.le_of_ble_eq_true rfl) rfl fun fx hfx => WK.top ?_
    simp only [impl, imp, argT, List.append_nil, List.map_nil, List.nil_append, show Try.f50.ntmps = 30 from rfl, Nat.zero_add, Nat.reduceAdd]
    have FX := And.intro hlt heq
    repeat' (first | refine WK.seq ?_ | refine WK.reg ?_ | refine IL.nil ?_ | (with_reducible refine IL.wr ?_ ?_; focus exact cW) | refine IL.sgF ttok ?_ | refine IL.nn ?_ | (((first | refine IL.ag (fun h => ?_) (fun h => ?_) | refine IL.ap (fun h => ?_) (fun h => ?_)); (fail_if_success (focus (simp only [reduceCtorEq] at h)))); all_goals first | (simp only [reduceCtorEq] at h; done) | (simp only [hsA, hsD, hsE, ne_eq] at h; first | done | (exfalso; omega; done) | skip) | skip))
    all_goals try ((first | refine WK.ret ⟨.inr rfl, ?_⟩ | refine ⟨.inl rfl, ?_⟩ | refine ⟨.inl trivial, ?_⟩); refine Fin.o ?_ ?_ (h1 := by first | rfl | (simp only [go_sem, show Try.f50.results.toList = [.tmp 4] from rfl, reduceIte] <;> rfl)); rotate_left 1; (focus (first | rfl | skip)); all_goals try with_reducible rfl)
    all_goals skip
  · have heq : (a.r == e.r) = false := beq_eq_false_iff_ne.2 h2
    rw [show decide (kE a < kE e) = false by rw [decide_eq_false_iff_not, hk]; exact fun h => h.elim h1 fun h => h2 h.1]
    clear hk na ne
    refine SCall.of_body' (TT := TT) (fun _ => false) [false, false] ttok Try.func50 rfl (Nat.le_of_ble_eq_true rfl) rfl fun fx hfx => WK.top ?_
    simp only [impl, imp, argT, List.append_nil, List.map_nil, List.nil_append, show Try.f50.ntmps = 30 from rfl, Nat.zero_add, Nat.reduceAdd]
    have FX := And.intro hlt heq
    repeat' (first | refine WK.seq ?_ | refine WK.reg ?_ | refine IL.nil ?_ | (with_reducible refine IL.wr ?_ ?_; focus exact cW) | refine IL.sgF ttok ?_ | refine IL.nn ?_ | (((first | refine IL.ag (fun h => ?_) (fun h => ?_) | refine IL.ap (fun h => ?_) (fun h => ?_)); (fail_if_success (focus (simp only [reduceCtorEq] at h)))); all_goals first | (simp only [reduceCtorEq] at h; done) | (simp only [hsA, hsD, hsE, ne_eq] at h; first | done | (exfalso; omega; done) | skip) | skip))
    all_goals try ((first | refine WK.ret ⟨.inr rfl, ?_⟩ | refine ⟨.inl rfl, ?_⟩ | refine ⟨.inl trivial, ?_⟩); refine Fin.o ?_ ?_ (h1 := by first | rfl | (simp only [go_sem, show Try.f50.results.toList = [.tmp 4] from rfl, reduceIte] <;> rfl)); rotate_left 1; (focus (first | rfl | skip)); all_goals try with_reducible rfl)
    all_goals skip
theorem has11_call (l : List EnV) (e : EnV) (hl : ∀ x ∈ l, nb x) (he : nb e) (hn : l.length ≤ 100000) (B : Bool) (hB : B = true ↔ ∃ x ∈ l, kE x = kE e) :
    SCall Try.prog 24 [.tr l.length (encs envC l), .agg (envC e)] (.v (.bool B)) [.tr l.length (encs envC l), .agg (envC e)] := by
  rw [envC_eq]
  refine SCall.of_body' (TT := TT) (fun _ => false) [false, false] ttok Try.func24 rfl (Nat.le_of_ble_eq_true rfl) rfl fun fx hfx => WK.top ?_
  simp only [impl, imp, argT, List.append_nil, List.map_nil, List.nil_append, show Try.f24.ntmps = 34 from rfl, Nat.zero_add, Nat.reduceAdd]
  repeat' (first | refine WK.seq ?_ | refine WK.reg ?_ | refine IL.nil ?_ | refine WK.skip ?_ | refine WK.block ?_ | refine WK.exit_here ?_ | refine WK.e1 ?_ | refine WK.e2 ?_ | refine WK.drawnS (id := 4) mixed [] [] [] [] (by decide +kernel) ?_ | refine DW.nil ?_ | (with_reducible refine IL.wr ?_ ?_; focus exact cW) | (with_reducible refine DW.wr ?_ ?_; focus exact cW) | refine IL.sg ttok ?_ | refine DW.re ttok ?_ | refine DW.rm ttok ?_ | refine DW.nn ?_ | refine DW.nb ?_ | ((first | ((first | refine DW.ag (fun h => ?_) (fun h => ?_) | refine DW.ap (fun h => ?_) (fun h => ?_)); (fail_if_success (focus (simp only [reduceCtorEq] at h)))) | refine WK.cn (fun h => ?_) (fun h => ?_)); all_goals first | (simp only [reduceCtorEq] at h; done) | (simp only [hsA, hsD, hsE, ne_eq] at h; first | done | (exfalso; omega; done) | skip) | skip))
  refine WK.forS l.length (fun k => ∀ x ∈ l.take k, kE x ≠ kE e) (fun k => ⟨34, [(0, .tr l.length (encs envC l)), (3, .ptr 0 0 0), (5, .v (.int .i64 k))], [some ⟨false, 0, 1, false, enT e.d e.r e.s e.c e.u e.ops, 0, false⟩]⟩) ⟨by simp, ?_⟩ (fun k hk ho => ?_) (fun ho => ?_)
  · (refine Weak.renS [0] hfx rfl ?_ ?_ rfl <;> (simp only [go_sem, reduceIte, exists_eq_left', exists_eq_left, Blk.mk.injEq, enT, enL] <;> (try and_intros) <;> first | rfl | omega))
  · have hx : l[k]? = some l[k] := List.getElem?_eq_getElem hk
    have hle : k * 6 + 6 ≤ l.length * 6 := by omega
    have hat : ((encs envC l).drop (k * 6)).take 6 = envC l[k] := encs_at envC_length hx
    have hne : encs envC l ≠ [] := encs_ne envC_length (by decide) hx
    have hxb := hl _ (List.getElem_mem hk)
    have hkk : kE l[k] = kE e ↔ (l[k].r = e.r ∧ l[k].s = e.s) := by
      unfold nb at hxb he
      unfold kE kN
      omega
    have hyes : kE l[k] = kE e → B = true := fun h => hB.2 ⟨_, List.getElem_mem hk, h⟩
    have hno : ¬ kE l[k] = kE e → ∀ x ∈ l.take (k + 1), kE x ≠ kE e := fun h x hx2 => by
      rw [List.take_add_one, hx] at hx2
      rcases List.mem_append.1 hx2 with hx2 | hx2
      · exact ho x hx2
      · simp at hx2; rw [hx2]; exact h
    have ha1 : (encs envC l)[k * 6 + 1]? = some (.v (.int .u16 l[k].r)) := encs_get envC_length hx (by decide)
    have ha2 : (encs envC l)[k * 6 + 2]? = some (.v (.int .u32 l[k].s)) := encs_get envC_length hx (by decide)
    rw [envC_eq] at hat
    rw [hkk] at hyes hno
    clear hx hkk hxb ho
    generalize l[k] = x at *
    by_cases h1 : x.r = e.r
    · have heq : (x.r == e.r) = true := beq_iff_eq.2 h1
      by_cases h2 : x.s = e.s
      · have heq2 : (x.s == e.s) = true := beq_iff_eq.2 h2
        rw [hyes ⟨h1, h2⟩]
        have FX := And.intro ha1 (And.intro ha2 (And.intro hle (And.intro heq heq2)))
        repeat' (first | refine WK.seq ?_ | refine WK.reg ?_ | refine IL.nil ?_ | refine WK.skip ?_ | refine WK.block ?_ | refine WK.exit_here ?_ | refine WK.e1 ?_ | refine WK.e2 ?_ | refine WK.drawnS (id := 4) mixed [] [] [] [] (by decide +kernel) ?_ | refine DW.nil ?_ | (with_reducible refine IL.wr ?_ ?_; focus exact cW) | (with_reducible refine DW.wr ?_ ?_; focus exact cW) | refine IL.sgF ttok ?_ | refine DW.reF ttok ?_ | refine DW.rmF ttok ?_ | refine DW.nn ?_ | refine DW.nb ?_ | ((first | ((first | refine DW.ag (fun h => ?_) (fun h => ?_) | refine DW.ap (fun h => ?_) (fun h => ?_)); (fail_if_success (focus (simp only [reduceCtorEq] at h)))) | refine WK.cn (fun h => ?_) (fun h => ?_)); all_goals first | (simp only [reduceCtorEq] at h; done) | (simp only [hsA, hsD, hsE, ne_eq] at h; first | done | (exfalso; omega; done) | skip) | skip))
        all_goals try ((first | refine WK.ret ⟨.inr rfl, ?_⟩ | refine ⟨.inl rfl, ?_⟩ | refine ⟨.inl trivial, ?_⟩); refine Fin.o ?_ ?_ (h1 := by first | rfl | (simp only [go_sem, show Try.f24.results.toList = [.tmp 4] from rfl, reduceIte] <;> rfl)); rotate_left 1; (focus (first | rfl | skip)); all_goals try with_reducible rfl)
        all_goals skip
      · have heq2 : (x.s == e.s) = false := beq_eq_false_iff_ne.2 h2
        have FX := And.intro ha1 (And.intro ha2 (And.intro hle (And.intro heq heq2)))
        repeat' (first | refine WK.seq ?_ | refine WK.reg ?_ | refine IL.nil ?_ | refine WK.skip ?_ | refine WK.block ?_ | refine WK.exit_here ?_ | refine WK.e1 ?_ | refine WK.e2 ?_ | refine WK.drawnS (id := 4) mixed [] [] [] [] (by decide +kernel) ?_ | refine DW.nil ?_ | (with_reducible refine IL.wr ?_ ?_; focus exact cW) | (with_reducible refine DW.wr ?_ ?_; focus exact cW) | refine IL.sgF ttok ?_ | refine DW.reF ttok ?_ | refine DW.rmF ttok ?_ | refine DW.nn ?_ | refine DW.nb ?_ | ((first | ((first | refine DW.ag (fun h => ?_) (fun h => ?_) | refine DW.ap (fun h => ?_) (fun h => ?_)); (fail_if_success (focus (simp only [reduceCtorEq] at h)))) | refine WK.cn (fun h => ?_) (fun h => ?_)); all_goals first | (simp only [reduceCtorEq] at h; done) | (simp only [hsA, hsD, hsE, ne_eq] at h; first | done | (exfalso; omega; done) | skip) | skip))
        refine ⟨hno fun h => h2 h.2, ?_⟩
        (refine Weak.renS [0] hfx rfl ?_ ?_ rfl <;> (simp only [go_sem, reduceIte, exists_eq_left', exists_eq_left, Blk.mk.injEq, enT, enL] <;> (try and_intros) <;> first | rfl | omega))
    · have heq : (x.r == e.r) = false := beq_eq_false_iff_ne.2 h1
      have FX := And.intro ha1 (And.intro ha2 (And.intro hle heq))
      repeat' (first | refine WK.seq ?_ | refine WK.reg ?_ | refine IL.nil ?_ | refine WK.skip ?_ | refine WK.block ?_ | refine WK.exit_here ?_ | refine WK.e1 ?_ | refine WK.e2 ?_ | refine WK.drawnS (id := 4) mixed [] [] [] [] (by decide +kernel) ?_ | refine DW.nil ?_ | (with_reducible refine IL.wr ?_ ?_; focus exact cW) | (with_reducible refine DW.wr ?_ ?_; focus exact cW) | refine IL.sgF ttok ?_ | refine DW.reF ttok ?_ | refine DW.rmF ttok ?_ | refine DW.nn ?_ | refine DW.nb ?_ | ((first | ((first | refine DW.ag (fun h => ?_) (fun h => ?_) | refine DW.ap (fun h => ?_) (fun h => ?_)); (fail_if_success (focus (simp only [reduceCtorEq] at h)))) | refine WK.cn (fun h => ?_) (fun h => ?_)); all_goals first | (simp only [reduceCtorEq] at h; done) | (simp only [hsA, hsD, hsE, ne_eq] at h; first | done | (exfalso; omega; done) | skip) | skip))
      refine ⟨hno fun h => h1 h.1, ?_⟩
      (refine Weak.renS [0] hfx rfl ?_ ?_ rfl <;> (simp only [go_sem, reduceIte, exists_eq_left', exists_eq_left, Blk.mk.injEq, enT, enL] <;> (try and_intros) <;> first | rfl | omega))
  · rw [List.take_length] at ho
    have hBf : B = false := Bool.eq_false_iff.2 fun h => by
      obtain ⟨x, hx, hk⟩ := hB.1 h
      exact ho x hx hk
    rw [hBf]
    repeat' (first | refine WK.seq ?_ | refine WK.reg ?_ | refine IL.nil ?_ | refine WK.skip ?_ | refine WK.block ?_ | refine WK.exit_here ?_ | refine WK.e1 ?_ | refine WK.e2 ?_ | refine WK.drawnS (id := 4) mixed [] [] [] [] (by decide +kernel) ?_ | refine DW.nil ?_ | (with_reducible refine IL.wr ?_ ?_; focus exact cW) | (with_reducible refine DW.wr ?_ ?_; focus exact cW) | refine IL.sg ttok ?_ | refine DW.re ttok ?_ | refine DW.rm ttok ?_ | refine DW.nn ?_ | refine DW.nb ?_ | ((first | ((first | refine DW.ag (fun h => ?_) (fun h => ?_) | refine DW.ap (fun h => ?_) (fun h => ?_)); (fail_if_success (focus (simp only [reduceCtorEq] at h)))) | refine WK.cn (fun h => ?_) (fun h => ?_)); all_goals first | (simp only [reduceCtorEq] at h; done) | (simp only [hsA, hsD, hsE, ne_eq] at h; first | done | (exfalso; omega; done) | skip) | skip))
    all_goals try ((first | refine WK.ret ⟨.inr rfl, ?_⟩ | refine ⟨.inl rfl, ?_⟩ | refine ⟨.inl trivial, ?_⟩); refine Fin.o ?_ ?_ (h1 := by first | rfl | (simp only [go_sem, show Try.f24.results.toList = [.tmp 4] from rfl, reduceIte] <;> rfl)); rotate_left 1; (focus (first | rfl | skip)); all_goals try with_reducible rfl)
    all_goals skip
theorem without11_call (l : List EnV) (i : Nat) (hi : i < l.length) (hn : l.length ≤ 100000) :
    SCall Try.prog 28 [.tr l.length (encs envC l), .v (.int .i64 i)] (.own 49 (l.take i ++ l.drop (i + 1)).length false (encs envC (l.take i ++ l.drop (i + 1)))) [.tr l.length (encs envC l), .v (.int .i64 i)] := by
  have hW : ∀ k, (if k ≤ i then l.take k else l.take i ++ (l.take k).drop (i + 1)) = (if k ≤ i then l.take k else l.take i ++ (l.take k).drop (i + 1)) := fun k => rfl
  let O : Nat → List EnV := fun k => if k ≤ i then l.take k else l.take i ++ (l.take k).drop (i + 1)
  have h0 : O 0 = [] := by show (if 0 ≤ i then l.take 0 else _) = []; rw [if_pos (Nat.zero_le _)]; rfl
  have hE : O l.length = l.take i ++ l.drop (i + 1) := by show (if l.length ≤ i then _ else _) = _; rw [if_neg (by omega), List.take_length]
  have hS : ∀ k (hk : k < l.length), O (k + 1) = if k = i then O k else O k ++ [l[k]] := fun k hk => by
    have hx : l[k]? = some l[k] := List.getElem?_eq_getElem hk
    have htk : l.take (k + 1) = l.take k ++ [l[k]] := by rw [List.take_add_one, hx]; rfl
    show (if k + 1 ≤ i then _ else _) = if k = i then (if k ≤ i then _ else _) else (if k ≤ i then _ else _) ++ _
    by_cases h : k = i
    · subst h
      rw [if_neg (by omega), if_pos rfl, if_pos (Nat.le_refl _), List.drop_of_length_le (by rw [List.length_take]; omega), List.append_nil]
    · rw [if_neg h]
      by_cases h2 : k ≤ i
      · rw [if_pos (by omega), if_pos h2, htk]
      · rw [if_neg (by omega), if_neg h2, htk, List.drop_append_of_le_length (by rw [List.length_take]; omega), List.append_assoc]
  have hO : ∀ k, (O k).length ≤ 200000 := fun k => by
    show (if k ≤ i then _ else _ : List EnV).length ≤ _
    split
    · rw [List.length_take]; omega
    · simp only [List.length_append, List.length_take, List.length_drop]; omega
  clear_value O
  rw [← hE]
  clear hE hW
  refine SCall.of_body' (TT := TT) (fun _ => false) [false, false] ttok Try.func28 rfl (Nat.le_of_ble_eq_true rfl) rfl fun fx hfx => WK.top ?_
  simp only [impl, imp, argT, List.append_nil, List.map_nil, List.nil_append, show Try.f28.ntmps = 24 from rfl, Nat.zero_add, Nat.reduceAdd]
  repeat' (first | refine WK.seq ?_ | refine WK.reg ?_ | refine IL.nil ?_ | refine WK.skip ?_ | refine WK.block ?_ | refine WK.exit_here ?_ | refine WK.e1 ?_ | refine WK.e2 ?_ | (with_reducible refine IL.wr ?_ ?_; focus exact cW) | refine IL.sg ttok ?_ | (refine WK.cn (fun h => ?_) (fun h => ?_); all_goals first | (simp only [reduceCtorEq] at h; done) | (simp only [hsA, hsD, hsE, ne_eq] at h; first | done | (exfalso; omega; done) | skip) | skip))
  refine WK.forS l.length (fun k => True) (fun k => ⟨24, [(0, .tr l.length (encs envC l)), (1, .v (.int .i64 i)), (5, .sl 0 0 0 (O k).length), (6, .v (.int .i64 k))], [some ⟨true, 49, (O k).length, false, encs envC (O k), 0, false⟩]⟩) ⟨trivial, ?_⟩ (fun k hk ho => ?_) (fun ho => ?_)
  · rw [h0]
    (refine Weak.renS [1] hfx rfl ?_ ?_ rfl <;> (simp only [go_sem, reduceIte, exists_eq_left', exists_eq_left, Blk.mk.injEq, List.length_nil, encs_nil] <;> (try and_intros) <;> first | rfl | omega))
  · have hx : l[k]? = some l[k] := List.getElem?_eq_getElem hk
    have hle : k * 6 + 6 ≤ l.length * 6 := by omega
    have hat : ((encs envC l).drop (k * 6)).take 6 = envC l[k] := encs_at envC_length hx
    have hne : encs envC l ≠ [] := encs_ne envC_length (by decide) hx
    have hol := hO k
    rw [hS k hk]
    rw [envC_eq] at hat
    generalize O k = out at *
    have hcs : encs envC out ++ enT l[k].d l[k].r l[k].s l[k].c l[k].u l[k].ops = encs envC (out ++ [l[k]]) := encs_snoc (f := envC) out l[k]
    have hln : (out ++ [l[k]]).length = out.length + 1 := by simp
    clear hx hS hO h0
    generalize l[k] = x at *
    by_cases h : k = i
    · rw [if_pos h]
      have hb : ((k : Int) == (i : Int)) = true := by rw [h]; simp
      have FX := And.intro hat (And.intro hle hb)
      repeat' (first | refine WK.seq ?_ | refine WK.reg ?_ | refine IL.nil ?_ | refine WK.skip ?_ | refine WK.block ?_ | refine WK.exit_here ?_ | refine WK.e1 ?_ | refine WK.e2 ?_ | (with_reducible refine IL.wr ?_ ?_; focus exact cW) | refine IL.sgF ttok ?_ | (refine WK.cn (fun h => ?_) (fun h => ?_); all_goals first | (simp only [reduceCtorEq] at h; done) | (simp only [hsA, hsD, hsE, ne_eq] at h; first | done | (exfalso; omega; done) | skip) | skip))
      all_goals try ((first | refine WK.ret ⟨.inr rfl, ?_⟩ | refine ⟨.inl rfl, ?_⟩ | refine ⟨.inl trivial, ?_⟩); refine Fin.o ?_ ?_ (h1 := by first | rfl | (simp only [go_sem, show Try.f28.results.toList = [.tmp 4] from rfl, reduceIte] <;> rfl)); rotate_left 1; (focus (first | rfl | skip)); all_goals try with_reducible rfl)
      refine ⟨trivial, ?_⟩
      (refine Weak.renS [0] hfx rfl ?_ ?_ rfl <;> (simp only [go_sem, reduceIte, exists_eq_left', exists_eq_left, Blk.mk.injEq] <;> (try and_intros) <;> first | rfl | omega))
    · rw [if_neg h]
      have hb : ((k : Int) == (i : Int)) = false := beq_eq_false_iff_ne.2 (by omega)
      have FX := And.intro hat (And.intro hle hb)
      repeat' (first | refine WK.seq ?_ | refine WK.reg ?_ | refine IL.nil ?_ | refine WK.skip ?_ | refine WK.block ?_ | refine WK.exit_here ?_ | refine WK.e1 ?_ | refine WK.e2 ?_ | (with_reducible refine IL.wr ?_ ?_; focus exact cW) | refine IL.sgF ttok ?_ | (refine WK.cn (fun h => ?_) (fun h => ?_); all_goals first | (simp only [reduceCtorEq] at h; done) | (simp only [hsA, hsD, hsE, ne_eq] at h; first | done | (exfalso; omega; done) | skip) | skip))
      all_goals try ((first | refine WK.ret ⟨.inr rfl, ?_⟩ | refine ⟨.inl rfl, ?_⟩ | refine ⟨.inl trivial, ?_⟩); refine Fin.o ?_ ?_ (h1 := by first | rfl | (simp only [go_sem, show Try.f28.results.toList = [.tmp 4] from rfl, reduceIte] <;> rfl)); rotate_left 1; (focus (first | rfl | skip)); all_goals try with_reducible rfl)
      refine ⟨trivial, ?_⟩
      (refine Weak.renS [0] hfx rfl ?_ ?_ rfl <;> (simp only [go_sem, reduceIte, exists_eq_left', exists_eq_left, Blk.mk.injEq, hln, hcs] <;> (try and_intros) <;> first | rfl | omega))
  · repeat' (first | refine WK.seq ?_ | refine WK.reg ?_ | refine IL.nil ?_ | refine WK.skip ?_ | refine WK.block ?_ | refine WK.exit_here ?_ | refine WK.e1 ?_ | refine WK.e2 ?_ | (with_reducible refine IL.wr ?_ ?_; focus exact cW) | refine IL.sg ttok ?_ | (refine WK.cn (fun h => ?_) (fun h => ?_); all_goals first | (simp only [reduceCtorEq] at h; done) | (simp only [hsA, hsD, hsE, ne_eq] at h; first | done | (exfalso; omega; done) | skip) | skip))
    all_goals try ((first | refine WK.ret ⟨.inr rfl, ?_⟩ | refine ⟨.inl rfl, ?_⟩ | refine ⟨.inl trivial, ?_⟩); refine Fin.o ?_ ?_ (h1 := by first | rfl | (simp only [go_sem, show Try.f28.results.toList = [.tmp 4] from rfl, reduceIte] <;> rfl)); rotate_left 1; (focus (first | rfl | skip)); all_goals try with_reducible rfl)
    all_goals skip
end Go.Proofs.Ytclhjcbnpdlgbaa
/- the document's buffer: put. -/
namespace Go.Proofs.Ytclhjcbnpdlgbaa
open Go Go.Lift
set_option maxHeartbeats 4000000
set_option linter.unusedSimpArgs false
set_option linter.unusedVariables false
attribute [local irreducible] WK IL IP IG IW DW

def loE (e : EnV) (l : List EnV) : List EnV := l.filter fun x => decide (kE x < kE e)
def hiE (e : EnV) (l : List EnV) : List EnV := l.filter fun x => decide (kE e < kE x)
theorem put11_call (l : List EnV) (e : EnV) (hl : ∀ x ∈ l, nb x) (he : nb e) (hn : l.length ≤ 100000) :
    SCall Try.prog 25 [.tr l.length (encs envC l), .agg (envC e)] (.own 49 ((loE e l ++ [e]) ++ hiE e l).length false (encs envC ((loE e l ++ [e]) ++ hiE e l))) [.tr l.length (encs envC l), .agg (envC e)] := by
  rw [envC_eq e]
  refine SCall.of_body' (TT := TT) (fun _ => false) [false, false] ttok Try.func25 rfl (Nat.le_of_ble_eq_true rfl) rfl fun fx hfx => WK.top ?_
  simp only [impl, imp, argT, List.append_nil, List.map_nil, List.nil_append, show Try.f25.ntmps = 51 from rfl, Nat.zero_add, Nat.reduceAdd]
  repeat' (first | refine WK.seq ?_ | refine WK.reg ?_ | refine IL.nil ?_ | refine WK.skip ?_ | refine WK.block ?_ | refine WK.exit_here ?_ | refine WK.e1 ?_ | refine WK.e2 ?_ | refine WK.drawnS (id := 5) mixed [] [5] [0, 0, 0, 0, 0, 0] [0, 0, 0, 0, 0, 0] (by decide +kernel) ?_ | refine WK.drawnS (id := 11) mixed [] [5] [0, 0, 0, 0, 0, 0] [0, 0, 0, 0, 0, 0] (by decide +kernel) ?_ | refine DW.nil ?_ | (with_reducible refine IL.wr ?_ ?_; focus exact cW) | (with_reducible refine DW.wr ?_ ?_; focus exact cW) | refine IL.sg ttok ?_ | refine DW.re ttok ?_ | refine DW.rm ttok ?_ | refine DW.cS ttok ent50 [.bor, .bor] true ?_ (hS := by exact hah) | (refine WK.cn (fun h => ?_) (fun h => ?_); all_goals first | (simp only [reduceCtorEq] at h; done) | (simp only [hsA, hsD, hsE, ne_eq] at h; first | done | (exfalso; omega; done) | skip) | skip))
  refine WK.forS l.length (fun k => True) (fun k => ⟨51, [(0, .tr l.length (encs envC l)), (3, .ptr 0 0 0), (5, .sl 1 0 0 (loE e (l.take k)).length), (6, .v (.int .i64 k))], [some ⟨false, 0, 1, false, enT e.d e.r e.s e.c e.u e.ops, 0, false⟩, some ⟨true, 49, (loE e (l.take k)).length, false, encs envC (loE e (l.take k)), 0, false⟩]⟩) ⟨trivial, ?_⟩ (fun k hk ho => ?_) (fun ho => ?_)
  · rw [List.take_zero, show loE e [] = [] from rfl]
    (refine Weak.renS [0, 2] hfx rfl ?_ ?_ rfl <;> (simp only [go_sem, reduceIte, exists_eq_left', exists_eq_left, Blk.mk.injEq, enT, enL, List.length_nil, encs_nil] <;> (try and_intros) <;> first | rfl | omega))
  · have hx : l[k]? = some l[k] := List.getElem?_eq_getElem hk
    have hle : k * 6 + 6 ≤ l.length * 6 := by omega
    have hat : ((encs envC l).drop (k * 6)).take 6 = envC l[k] := encs_at envC_length hx
    have hne : encs envC l ≠ [] := encs_ne envC_length (by decide) hx
    have hah := ahead_call l[k] e (hl _ (List.getElem_mem hk)) he
    have hol : (loE e (l.take k)).length ≤ k := Nat.le_trans (List.length_filter_le _ _) (by rw [List.length_take]; omega)
    have htk : loE e (l.take (k + 1)) = loE e (l.take k) ++ (if decide (kE l[k] < kE e) = true then [l[k]] else []) := by
      unfold loE
      rw [List.take_add_one, hx, List.filter_append]
      by_cases h : kE l[k] < kE e <;> simp [h]
    rw [htk]
    rw [envC_eq, envC_eq] at hah
    rw [envC_eq] at hat
    generalize loE e (l.take k) = out at *
    have hcs : encs envC out ++ enT l[k].d l[k].r l[k].s l[k].c l[k].u l[k].ops = encs envC (out ++ [l[k]]) := encs_snoc (f := envC) out l[k]
    have hln : (out ++ [l[k]]).length = out.length + 1 := by simp
    clear hx htk
    generalize decide (kE l[k] < kE e) = B at *
    generalize l[k] = x at *
    cases B with
    | true =>
      rw [if_pos rfl]
      have FX := And.intro hat hle
      repeat' (first | refine WK.seq ?_ | refine WK.reg ?_ | refine IL.nil ?_ | refine WK.skip ?_ | refine WK.block ?_ | refine WK.exit_here ?_ | refine WK.e1 ?_ | refine WK.e2 ?_ | refine WK.drawnS (id := 5) mixed [] [5] [0, 0, 0, 0, 0, 0] [0, 0, 0, 0, 0, 0] (by decide +kernel) ?_ | refine WK.drawnS (id := 11) mixed [] [5] [0, 0, 0, 0, 0, 0] [0, 0, 0, 0, 0, 0] (by decide +kernel) ?_ | refine DW.nil ?_ | (with_reducible refine IL.wr ?_ ?_; focus exact cW) | (with_reducible refine DW.wr ?_ ?_; focus exact cW) | refine IL.sgF ttok ?_ | refine DW.reF ttok ?_ | refine DW.rmF ttok ?_ | refine DW.cSF ttok ent50 [.bor, .bor] true ?_ (hS := by exact hah) | (refine WK.cn (fun h => ?_) (fun h => ?_); all_goals first | (simp only [reduceCtorEq] at h; done) | (simp only [hsA, hsD, hsE, ne_eq] at h; first | done | (exfalso; omega; done) | skip) | skip))
      refine ⟨trivial, ?_⟩
      (refine Weak.renS [0, 1] hfx rfl ?_ ?_ rfl <;> (simp only [go_sem, reduceIte, exists_eq_left', exists_eq_left, Blk.mk.injEq, enT, enL, hln, hcs] <;> (try and_intros) <;> first | rfl | omega))
    | false =>
      rw [if_neg (by decide), List.append_nil]
      have FX := And.intro hat hle
      repeat' (first | refine WK.seq ?_ | refine WK.reg ?_ | refine IL.nil ?_ | refine WK.skip ?_ | refine WK.block ?_ | refine WK.exit_here ?_ | refine WK.e1 ?_ | refine WK.e2 ?_ | refine WK.drawnS (id := 5) mixed [] [5] [0, 0, 0, 0, 0, 0] [0, 0, 0, 0, 0, 0] (by decide +kernel) ?_ | refine WK.drawnS (id := 11) mixed [] [5] [0, 0, 0, 0, 0, 0] [0, 0, 0, 0, 0, 0] (by decide +kernel) ?_ | refine DW.nil ?_ | (with_reducible refine IL.wr ?_ ?_; focus exact cW) | (with_reducible refine DW.wr ?_ ?_; focus exact cW) | refine IL.sgF ttok ?_ | refine DW.reF ttok ?_ | refine DW.rmF ttok ?_ | refine DW.cSF ttok ent50 [.bor, .bor] true ?_ (hS := by exact hah) | (refine WK.cn (fun h => ?_) (fun h => ?_); all_goals first | (simp only [reduceCtorEq] at h; done) | (simp only [hsA, hsD, hsE, ne_eq] at h; first | done | (exfalso; omega; done) | skip) | skip))
      refine ⟨trivial, ?_⟩
      (refine Weak.renS [0, 1] hfx rfl ?_ ?_ rfl <;> (simp only [go_sem, reduceIte, exists_eq_left', exists_eq_left, Blk.mk.injEq, enT, enL] <;> (try and_intros) <;> first | rfl | omega))
  · rw [List.take_length]
    have hol : (loE e l).length ≤ l.length := List.length_filter_le _ _
    generalize loE e l = out at *
    have hcs : encs envC out ++ enT e.d e.r e.s e.c e.u e.ops = encs envC (out ++ [e]) := encs_snoc (f := envC) out e
    have hln : (out ++ [e]).length = out.length + 1 := by simp
    repeat' (first | refine WK.seq ?_ | refine WK.reg ?_ | refine IL.nil ?_ | refine WK.skip ?_ | refine WK.block ?_ | refine WK.exit_here ?_ | refine WK.e1 ?_ | refine WK.e2 ?_ | refine WK.drawnS (id := 5) mixed [] [5] [0, 0, 0, 0, 0, 0] [0, 0, 0, 0, 0, 0] (by decide +kernel) ?_ | refine WK.drawnS (id := 11) mixed [] [5] [0, 0, 0, 0, 0, 0] [0, 0, 0, 0, 0, 0] (by decide +kernel) ?_ | refine DW.nil ?_ | (with_reducible refine IL.wr ?_ ?_; focus exact cW) | (with_reducible refine DW.wr ?_ ?_; focus exact cW) | refine IL.sg ttok ?_ | refine DW.re ttok ?_ | refine DW.rm ttok ?_ | refine DW.cS ttok ent50 [.bor, .bor] true ?_ (hS := by exact hah) | (refine WK.cn (fun h => ?_) (fun h => ?_); all_goals first | (simp only [reduceCtorEq] at h; done) | (simp only [hsA, hsD, hsE, ne_eq] at h; first | done | (exfalso; omega; done) | skip) | skip))
    refine WK.forS l.length (fun k => True) (fun k => ⟨51, [(0, .tr l.length (encs envC l)), (3, .ptr 0 0 0), (5, .sl 1 0 0 ((out ++ [e]) ++ hiE e (l.take k)).length), (7, .v (.int .i64 k))], [some ⟨false, 0, 1, false, enT e.d e.r e.s e.c e.u e.ops, 0, false⟩, some ⟨true, 49, ((out ++ [e]) ++ hiE e (l.take k)).length, false, encs envC ((out ++ [e]) ++ hiE e (l.take k)), 0, false⟩]⟩) ⟨trivial, ?_⟩ (fun k hk ho => ?_) (fun ho => ?_)
    · rw [List.take_zero, show hiE e [] = [] from rfl, List.append_nil]
      (refine Weak.renS [0, 1] hfx rfl ?_ ?_ rfl <;> (simp only [go_sem, reduceIte, exists_eq_left', exists_eq_left, Blk.mk.injEq, enT, enL, hln, hcs] <;> (try and_intros) <;> first | rfl | omega))
    · have hx : l[k]? = some l[k] := List.getElem?_eq_getElem hk
      have hle : k * 6 + 6 ≤ l.length * 6 := by omega
      have hat : ((encs envC l).drop (k * 6)).take 6 = envC l[k] := encs_at envC_length hx
      have hne : encs envC l ≠ [] := encs_ne envC_length (by decide) hx
      have hah := ahead_call e l[k] he (hl _ (List.getElem_mem hk))
      have hok : (hiE e (l.take k)).length ≤ k := Nat.le_trans (List.length_filter_le _ _) (by rw [List.length_take]; omega)
      have htk : hiE e (l.take (k + 1)) = hiE e (l.take k) ++ (if decide (kE e < kE l[k]) = true then [l[k]] else []) := by
        unfold hiE
        rw [List.take_add_one, hx, List.filter_append]
        by_cases h : kE e < kE l[k] <;> simp [h]
      rw [htk, ← List.append_assoc]
      rw [envC_eq, envC_eq] at hah
      rw [envC_eq] at hat
      have hou : ((out ++ [e]) ++ hiE e (l.take k)).length ≤ 300000 := by simp only [List.length_append, List.length_singleton]; omega
      generalize (out ++ [e]) ++ hiE e (l.take k) = out2 at *
      have hcs2 : encs envC out2 ++ enT l[k].d l[k].r l[k].s l[k].c l[k].u l[k].ops = encs envC (out2 ++ [l[k]]) := encs_snoc (f := envC) out2 l[k]
      have hln2 : (out2 ++ [l[k]]).length = out2.length + 1 := by simp
      clear hx htk hcs hln
      generalize decide (kE e < kE l[k]) = B at *
      generalize l[k] = x at *
      cases B with
      | true =>
        rw [if_pos rfl]
        have FX := And.intro hat hle
        repeat' (first | refine WK.seq ?_ | refine WK.reg ?_ | refine IL.nil ?_ | refine WK.skip ?_ | refine WK.block ?_ | refine WK.exit_here ?_ | refine WK.e1 ?_ | refine WK.e2 ?_ | refine WK.drawnS (id := 5) mixed [] [5] [0, 0, 0, 0, 0, 0] [0, 0, 0, 0, 0, 0] (by decide +kernel) ?_ | refine WK.drawnS (id := 11) mixed [] [5] [0, 0, 0, 0, 0, 0] [0, 0, 0, 0, 0, 0] (by decide +kernel) ?_ | refine DW.nil ?_ | (with_reducible refine IL.wr ?_ ?_; focus exact cW) | (with_reducible refine DW.wr ?_ ?_; focus exact cW) | refine IL.sgF ttok ?_ | refine DW.reF ttok ?_ | refine DW.rmF ttok ?_ | refine DW.cSF ttok ent50 [.bor, .bor] true ?_ (hS := by exact hah) | (refine WK.cn (fun h => ?_) (fun h => ?_); all_goals first | (simp only [reduceCtorEq] at h; done) | (simp only [hsA, hsD, hsE, ne_eq] at h; first | done | (exfalso; omega; done) | skip) | skip))
        refine ⟨trivial, ?_⟩
        (refine Weak.renS [0, 1] hfx rfl ?_ ?_ rfl <;> (simp only [go_sem, reduceIte, exists_eq_left', exists_eq_left, Blk.mk.injEq, enT, enL, hln2, hcs2] <;> (try and_intros) <;> first | rfl | omega))
      | false =>
        rw [if_neg (by decide), List.append_nil]
        have FX := And.intro hat hle
        repeat' (first | refine WK.seq ?_ | refine WK.reg ?_ | refine IL.nil ?_ | refine WK.skip ?_ | refine WK.block ?_ | refine WK.exit_here ?_ | refine WK.e1 ?_ | refine WK.e2 ?_ | refine WK.drawnS (id := 5) mixed [] [5] [0, 0, 0, 0, 0, 0] [0, 0, 0, 0, 0, 0] (by decide +kernel) ?_ | refine WK.drawnS (id := 11) mixed [] [5] [0, 0, 0, 0, 0, 0] [0, 0, 0, 0, 0, 0] (by decide +kernel) ?_ | refine DW.nil ?_ | (with_reducible refine IL.wr ?_ ?_; focus exact cW) | (with_reducible refine DW.wr ?_ ?_; focus exact cW) | refine IL.sgF ttok ?_ | refine DW.reF ttok ?_ | refine DW.rmF ttok ?_ | refine DW.cSF ttok ent50 [.bor, .bor] true ?_ (hS := by exact hah) | (refine WK.cn (fun h => ?_) (fun h => ?_); all_goals first | (simp only [reduceCtorEq] at h; done) | (simp only [hsA, hsD, hsE, ne_eq] at h; first | done | (exfalso; omega; done) | skip) | skip))
        refine ⟨trivial, ?_⟩
        (refine Weak.renS [0, 1] hfx rfl ?_ ?_ rfl <;> (simp only [go_sem, reduceIte, exists_eq_left', exists_eq_left, Blk.mk.injEq, enT, enL] <;> (try and_intros) <;> first | rfl | omega))
    · rw [List.take_length]
      repeat' (first | refine WK.seq ?_ | refine WK.reg ?_ | refine IL.nil ?_ | refine WK.skip ?_ | refine WK.block ?_ | refine WK.exit_here ?_ | refine WK.e1 ?_ | refine WK.e2 ?_ | refine WK.drawnS (id := 5) mixed [] [5] [0, 0, 0, 0, 0, 0] [0, 0, 0, 0, 0, 0] (by decide +kernel) ?_ | refine WK.drawnS (id := 11) mixed [] [5] [0, 0, 0, 0, 0, 0] [0, 0, 0, 0, 0, 0] (by decide +kernel) ?_ | refine DW.nil ?_ | (with_reducible refine IL.wr ?_ ?_; focus exact cW) | (with_reducible refine DW.wr ?_ ?_; focus exact cW) | refine IL.sg ttok ?_ | refine DW.re ttok ?_ | refine DW.rm ttok ?_ | refine DW.cS ttok ent50 [.bor, .bor] true ?_ (hS := by exact hah) | (refine WK.cn (fun h => ?_) (fun h => ?_); all_goals first | (simp only [reduceCtorEq] at h; done) | (simp only [hsA, hsD, hsE, ne_eq] at h; first | done | (exfalso; omega; done) | skip) | skip))
      all_goals try ((first | refine WK.ret ⟨.inr rfl, ?_⟩ | refine ⟨.inl rfl, ?_⟩ | refine ⟨.inl trivial, ?_⟩); refine Fin.o ?_ ?_ (h1 := by first | rfl | (simp only [go_sem, show Try.f25.results.toList = [.tmp 4] from rfl, reduceIte] <;> rfl)); rotate_left 1; (focus (first | rfl | skip)); all_goals try with_reducible rfl)
      all_goals skip
theorem posE_cons_lt {a : EnV} {l : List EnV} {k : Int} (h : kE a < k) : posE (a :: l) k = posE l k + 1 := by
  unfold posE; rw [List.countP_cons, if_pos (by simpa using h)]
theorem putP : ∀ {l : List EnV} {e : EnV}, SrtE l → (∀ x ∈ l, kE x ≠ kE e) → (loE e l ++ [e]) ++ hiE e l = putE l e
  | [], e, _, _ => rfl
  | a :: l, e, hs, hno => by
    obtain ⟨h1, h2⟩ := List.pairwise_cons.1 hs
    have hne := hno a (by simp)
    have ih := putP h2 fun x hx => hno x (by simp [hx])
    by_cases h : kE a < kE e
    · unfold putE at *
      rw [posE_cons_lt h]
      have e1 : loE e (a :: l) = a :: loE e l := by unfold loE; rw [List.filter_cons, if_pos (by simpa using h)]
      have e2 : hiE e (a :: l) = hiE e l := by unfold hiE; rw [List.filter_cons, if_neg (by simp only [decide_eq_true_eq]; omega)]
      rw [e1, e2, List.take_succ_cons, List.drop_succ_cons]
      simp only [List.cons_append]
      rw [ih]
      rfl
    · have hall : ∀ x ∈ a :: l, kE e < kE x := fun x hx => by
        rcases List.mem_cons.1 hx with rfl | hx
        · omega
        · have := h1 x hx; omega
      have e1 : loE e (a :: l) = [] := by
        unfold loE; rw [List.filter_eq_nil_iff]; intro x hx; have := hall x hx; simp only [decide_eq_true_eq]; omega
      have e2 : hiE e (a :: l) = a :: l := by
        unfold hiE; rw [List.filter_eq_self]; intro x hx; simpa using hall x hx
      have e3 : posE (a :: l) (kE e) = 0 := by
        unfold posE; rw [List.countP_eq_zero]; intro x hx; have := hall x hx; simp only [decide_eq_true_eq]; omega
      unfold putE
      rw [e1, e2, e3]; rfl
end Go.Proofs.Ytclhjcbnpdlgbaa
/- HoldWants: who knows what is wanted, plain. -/
namespace Go.Proofs.Ytclhjcbnpdlgbaa
open Go Go.Lift
set_option maxHeartbeats 4000000
set_option linter.unusedSimpArgs false
set_option linter.unusedVariables false
attribute [local irreducible] WK IL IP IG IW DW

end Go.Proofs.Ytclhjcbnpdlgbaa
