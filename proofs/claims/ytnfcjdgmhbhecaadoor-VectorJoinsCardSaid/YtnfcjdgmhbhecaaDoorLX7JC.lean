/- Vectors, plainly: what comes of knowing farther, and of joining. -/
import Derived.Test.YtnfcjdgmhbhecaaDoorLX7J6
namespace Go.Proofs.YtnfcjdgmhbhecaaDoor
open Go Go.Lift
set_option maxHeartbeats 4000000
set_option linter.unusedSimpArgs false
set_option linter.unusedVariables false

/-- entries that may be a vector's -/
structure Vec (l : List Ve) : Prop where
  s : Srt l
  b : ∀ x ∈ l, (0 ≤ x.1 ∧ x.1 ≤ 65535) ∧ (1 ≤ x.2 ∧ x.2 ≤ 268435456)
theorem Vec.ok {l : List Ve} (h : Vec l) : okVe l := fun x hx => by have := h.b x hx; omega
theorem Vec.of {l : List Ve} (h : rightB l = true) (hl : ∀ x ∈ l, 0 ≤ x.1 ∧ x.1 ≤ 65535) : Vec l :=
  ⟨(rightB_inv h).1, fun x hx => ⟨hl x hx, (rightB_inv h).2 x hx⟩⟩
/-- so far, of a replica -/
def withV (l : List Ve) (r q : Int) : List Ve := l.filter (fun x => decide (x.1 < r)) ++ ((if 0 < q then [(r, q)] else []) ++ l.filter (fun x => decide (r < x.1)))
theorem filter_lt : ∀ {l : List Ve} {r : Int}, Srt l → l.filter (fun x => decide (x.1 < r)) = l.take (pos l r)
  | [], r, _ => rfl
  | a :: l, r, hs => by
    obtain ⟨h1, h2⟩ := List.pairwise_cons.1 hs
    have ih := filter_lt (r := r) h2
    by_cases ha : a.1 < r
    · rw [List.filter_cons_of_pos (by simpa using ha), ih]
      have : pos (a :: l) r = pos l r + 1 := by unfold pos; rw [List.countP_cons, if_pos (by simpa using ha)]
      rw [this, List.take_succ_cons]
    · have h0 : pos (a :: l) r = 0 := by
        unfold pos
        rw [List.countP_eq_zero]
        intro y hy
        rcases List.mem_cons.1 hy with rfl | hy
        · simpa using ha
        · have := h1 y hy
          simp only [decide_eq_true_eq]; omega
      rw [h0, List.take_zero, List.filter_eq_nil_iff]
      intro y hy
      rcases List.mem_cons.1 hy with rfl | hy
      · simpa using ha
      · have := h1 y hy
        simp only [decide_eq_true_eq]; omega
theorem filter_gt : ∀ {l : List Ve} {r : Int}, Srt l → l.filter (fun x => decide (r < x.1)) = l.drop (if has l r = true then pos l r + 1 else pos l r)
  | [], r, _ => by simp
  | a :: l, r, hs => by
    obtain ⟨h1, h2⟩ := List.pairwise_cons.1 hs
    have ih := filter_gt (r := r) h2
    by_cases ha : a.1 < r
    · rw [List.filter_cons_of_neg (by simp; omega), ih]
      have hp : pos (a :: l) r = pos l r + 1 := by unfold pos; rw [List.countP_cons, if_pos (by simpa using ha)]
      have hh : has (a :: l) r = has l r := by unfold has; rw [hp]; rfl
      rw [hp, hh]
      split <;> rfl
    · have h0 : pos (a :: l) r = 0 := by
        unfold pos
        rw [List.countP_eq_zero]
        intro y hy
        rcases List.mem_cons.1 hy with rfl | hy
        · simpa using ha
        · have := h1 y hy
          simp only [decide_eq_true_eq]; omega
      have hh : has (a :: l) r = decide (a.1 = r) := by unfold has; rw [h0]; rfl
      have hall : l.filter (fun x => decide (r < x.1)) = l := List.filter_eq_self.2 fun y hy => by
        have := h1 y hy
        simp only [decide_eq_true_eq]; omega
      rw [h0, hh]
      by_cases he : a.1 = r
      · rw [List.filter_cons_of_neg (by simp; omega), hall, if_pos (by simpa using he)]; rfl
      · rw [List.filter_cons_of_pos (by simp; omega), hall, if_neg (by simpa using he)]; rfl
theorem withV_eq {l : List Ve} (hs : Srt l) (r q : Int) : withV l r q = l.take (pos l r) ++ ((if 0 < q then [(r, q)] else []) ++ l.drop (if has l r = true then pos l r + 1 else pos l r)) := by
  unfold withV; rw [filter_lt hs, filter_gt hs]
theorem withV_mem {l : List Ve} {r q : Int} {x : Ve} : x ∈ withV l r q ↔ (x ∈ l ∧ x.1 ≠ r) ∨ (0 < q ∧ x = (r, q)) := by
  unfold withV
  simp only [List.mem_append, List.mem_filter, decide_eq_true_eq]
  by_cases hq : 0 < q
  · rw [if_pos hq, List.mem_singleton]
    constructor
    · rintro (⟨h, h'⟩ | h | ⟨h, h'⟩)
      · exact .inl ⟨h, by omega⟩
      · exact .inr ⟨hq, h⟩
      · exact .inl ⟨h, by omega⟩
    · rintro (⟨h, h'⟩ | ⟨_, h⟩)
      · rcases Int.lt_or_gt_of_ne h' with h' | h'
        · exact .inl ⟨h, h'⟩
        · exact .inr (.inr ⟨h, h'⟩)
      · exact .inr (.inl h)
  · rw [if_neg hq]
    constructor
    · rintro (⟨h, h'⟩ | h | ⟨h, h'⟩)
      · exact .inl ⟨h, by omega⟩
      · simp at h
      · exact .inl ⟨h, by omega⟩
    · rintro (⟨h, h'⟩ | ⟨h, _⟩)
      · rcases Int.lt_or_gt_of_ne h' with h' | h'
        · exact .inl ⟨h, h'⟩
        · exact .inr (.inr ⟨h, h'⟩)
      · exact absurd h hq
theorem withV_srt {l : List Ve} (hs : Srt l) (r q : Int) : Srt (withV l r q) := by
  unfold withV Srt
  refine List.pairwise_append.2 ⟨List.Pairwise.filter _ hs, List.pairwise_append.2 ⟨?_, List.Pairwise.filter _ hs, ?_⟩, ?_⟩
  · split <;> simp
  · intro a ha b hb
    have hb := (List.mem_filter.1 hb).2
    simp only [decide_eq_true_eq] at hb
    split at ha
    · simp at ha; subst ha; exact hb
    · simp at ha
  · intro a ha b hb
    have ha := (List.mem_filter.1 ha).2
    simp only [decide_eq_true_eq] at ha
    rcases List.mem_append.1 hb with hb | hb
    · split at hb
      · simp at hb; subst hb; exact ha
      · simp at hb
    · have hb := (List.mem_filter.1 hb).2
      simp only [decide_eq_true_eq] at hb
      omega
theorem withV_vec {l : List Ve} (h : Vec l) {r q : Int} (hr : 0 ≤ r ∧ r ≤ 65535) (hq : 0 ≤ q ∧ q ≤ 268435456) : Vec (withV l r q) :=
  ⟨withV_srt h.s r q, fun x hx => by
    rcases withV_mem.1 hx with ⟨hx, _⟩ | ⟨h1, rfl⟩
    · exact h.b x hx
    · exact ⟨hr, by simp only; omega⟩⟩
theorem withV_len (l : List Ve) (hs : Srt l) (r q : Int) : (withV l r q).length ≤ l.length + 1 := by
  rw [withV_eq hs]
  simp only [List.length_append, List.length_take, List.length_drop]
  have hp := pos_le l r
  have : (if 0 < q then [(r, q)] else [] : List Ve).length ≤ 1 := by split <;> simp
  generalize (if 0 < q then [(r, q)] else [] : List Ve) = e at *
  split <;> omega
theorem getV_mem {l : List Ve} (hs : Srt l) {x : Ve} (hx : x ∈ l) : getV l x.1 = x.2 := by
  obtain ⟨k, hk, he⟩ := List.getElem_of_mem hx
  exact getV_at hs (by rw [List.getElem?_eq_getElem hk, he]) rfl
theorem getV_key {l : List Ve} (hs : Srt l) (r : Int) : (∃ x ∈ l, x.1 = r ∧ getV l r = x.2) ∨ ((∀ x ∈ l, x.1 ≠ r) ∧ getV l r = 0) := by
  by_cases h : ∃ x ∈ l, x.1 = r
  · obtain ⟨x, hx, rfl⟩ := h
    exact .inl ⟨x, hx, rfl, getV_mem hs hx⟩
  · have h' : ∀ x ∈ l, x.1 ≠ r := fun x hx he => h ⟨x, hx, he⟩
    exact .inr ⟨h', getV_none h'⟩
theorem getV_with {l : List Ve} (hs : Srt l) {r q : Int} (hq : 0 ≤ q) (r' : Int) : getV (withV l r q) r' = if r' = r then q else getV l r' := by
  have hs' := withV_srt hs r q
  by_cases h : r' = r
  · subst h
    rw [if_pos rfl]
    by_cases h0 : 0 < q
    · exact getV_mem hs' (x := (r', q)) (withV_mem.2 (.inr ⟨h0, rfl⟩))
    · rw [getV_none fun x hx => ?_]
      · omega
      · rcases withV_mem.1 hx with ⟨_, h⟩ | ⟨h, _⟩
        · exact h
        · exact absurd h h0
  · rw [if_neg h]
    rcases getV_key hs r' with ⟨x, hx, rfl, he⟩ | ⟨hn, he⟩
    · rw [he]
      exact getV_mem hs' (withV_mem.2 (.inl ⟨hx, h⟩))
    · rw [he]
      refine getV_none fun x hx => ?_
      rcases withV_mem.1 hx with ⟨hx, _⟩ | ⟨_, rfl⟩
      · exact hn x hx
      · exact fun h' => h h'.symm
/-- one more entry -/
def addV (o : List Ve) (x : Ve) : List Ve := if getV o x.1 < x.2 then withV o x.1 x.2 else o
def joinV (v w : List Ve) : List Ve := w.foldl addV v
theorem joinV_cons (v w : List Ve) (x : Ve) : joinV v (x :: w) = joinV (addV v x) w := rfl
theorem joinV_snoc (v w : List Ve) (x : Ve) : joinV v (w ++ [x]) = addV (joinV v w) x := by unfold joinV; rw [List.foldl_append]; rfl
theorem addV_vec {o : List Ve} (h : Vec o) {x : Ve} (hx : (0 ≤ x.1 ∧ x.1 ≤ 65535) ∧ (1 ≤ x.2 ∧ x.2 ≤ 268435456)) : Vec (addV o x) := by
  unfold addV
  split
  · exact withV_vec h hx.1 (by omega)
  · exact h
theorem addV_len {o : List Ve} (h : Vec o) (x : Ve) : (addV o x).length ≤ o.length + 1 := by
  unfold addV
  split
  · exact withV_len o h.s _ _
  · omega
theorem joinV_vec : ∀ {w v : List Ve}, Vec v → (∀ x ∈ w, (0 ≤ x.1 ∧ x.1 ≤ 65535) ∧ (1 ≤ x.2 ∧ x.2 ≤ 268435456)) → Vec (joinV v w) ∧ (joinV v w).length ≤ v.length + w.length
  | [], v, h, _ => ⟨h, by simp [joinV]⟩
  | x :: w, v, h, hw => by
    have h1 := addV_vec h (hw x (by simp))
    have h2 := addV_len h x
    have ih := joinV_vec (w := w) h1 fun y hy => hw y (by simp [hy])
    rw [joinV_cons]
    refine ⟨ih.1, ?_⟩
    have := ih.2
    simp only [List.length_cons]; omega
theorem getV_add {o : List Ve} (h : Vec o) {x : Ve} (hx : 1 ≤ x.2) (r : Int) : getV (addV o x) r = if r = x.1 then max (getV o r) x.2 else getV o r := by
  unfold addV
  by_cases hc : getV o x.1 < x.2
  · rw [if_pos hc, getV_with h.s (by omega)]
    by_cases he : r = x.1
    · subst he; rw [if_pos rfl, if_pos rfl]; omega
    · rw [if_neg he, if_neg he]
  · rw [if_neg hc]
    by_cases he : r = x.1
    · subst he; rw [if_pos rfl]; omega
    · rw [if_neg he]
theorem getV_cons {x : Ve} {w : List Ve} (hs : Srt (x :: w)) (r : Int) : getV (x :: w) r = if r = x.1 then x.2 else getV w r := by
  by_cases h : r = x.1
  · subst h
    rw [if_pos rfl]
    exact getV_mem hs (by simp)
  · rw [if_neg h]
    have h2 := (List.pairwise_cons.1 hs).2
    rcases getV_key h2 r with ⟨y, hy, rfl, he⟩ | ⟨hn, he⟩
    · rw [he]; exact getV_mem hs (by simp [hy])
    · rw [he]
      refine getV_none fun y hy => ?_
      rcases List.mem_cons.1 hy with rfl | hy
      · exact fun h' => h h'.symm
      · exact hn y hy
theorem getV_join : ∀ {w v : List Ve}, Vec v → Vec w → ∀ r, getV (joinV v w) r = max (getV v r) (getV w r)
  | [], v, h, _, r => by
    have := (getV_bd h.ok r).1
    have h0 : getV [] r = 0 := getV_none (by simp)
    show getV v r = _
    rw [h0]; omega
  | x :: w, v, h, hw, r => by
    have hx := hw.b x (by simp)
    have hw' : Vec w := ⟨(List.pairwise_cons.1 hw.s).2, fun y hy => hw.b y (by simp [hy])⟩
    rw [joinV_cons, getV_join (addV_vec h hx) hw' r, getV_add h hx.2.1, getV_cons hw.s]
    have hb := (getV_bd h.ok r).1
    by_cases he : r = x.1
    · subst he
      rw [if_pos rfl, if_pos rfl]
      have h0 : getV w x.1 = 0 := getV_none fun y hy => by
        have := (List.pairwise_cons.1 hw.s).1 y hy
        omega
      rw [h0]; omega
    · rw [if_neg he, if_neg he]
theorem srt_ext : ∀ {v w : List Ve}, Srt v → Srt w → (∀ x, x ∈ v ↔ x ∈ w) → v = w
  | [], [], _, _, _ => rfl
  | [], b :: w, _, _, h => by have := (h b).2 (by simp); simp at this
  | a :: v, [], _, _, h => by have := (h a).1 (by simp); simp at this
  | a :: v, b :: w, hv, hw, h => by
    obtain ⟨v1, v2⟩ := List.pairwise_cons.1 hv
    obtain ⟨w1, w2⟩ := List.pairwise_cons.1 hw
    have hab : a = b := by
      rcases List.mem_cons.1 ((h a).1 (by simp)) with e | e
      · exact e
      · rcases List.mem_cons.1 ((h b).2 (by simp)) with e' | e'
        · exact e'.symm
        · have := w1 a e
          have := v1 b e'
          omega
    subst hab
    rw [srt_ext v2 w2 fun x => ⟨fun hx => ?_, fun hx => ?_⟩]
    · rcases List.mem_cons.1 ((h x).1 (by simp [hx])) with rfl | e
      · have := v1 x hx; omega
      · exact e
    · rcases List.mem_cons.1 ((h x).2 (by simp [hx])) with rfl | e
      · have := w1 x hx; omega
      · exact e
theorem vec_ext {v w : List Ve} (hv : Vec v) (hw : Vec w) (h : ∀ r, getV v r = getV w r) : v = w := by
  have key : ∀ {v w : List Ve}, Vec v → Vec w → (∀ r, getV v r = getV w r) → ∀ x, x ∈ v → x ∈ w := by
    intro v w hv hw h x hx
    have h1 := getV_mem hv.s hx
    rw [h] at h1
    have h2 := (hv.b x hx).2.1
    rcases getV_key hw.s x.1 with ⟨y, hy, e1, e2⟩ | ⟨_, e⟩
    · have : x = y := Prod.ext e1.symm (by rw [← h1, e2])
      rw [this]; exact hy
    · omega
  exact srt_ext hv.s hw.s fun x => ⟨key hv hw h x, key hw hv (fun r => (h r).symm) x⟩
theorem covV_iff {v w : List Ve} (hv : Vec v) (hw : Vec w) : covV v w = true ↔ ∀ r, getV w r ≤ getV v r := by
  unfold covV lackV
  rw [beq_iff_eq, List.length_eq_zero_iff, List.flatMap_eq_nil_iff]
  constructor
  · intro h r
    rcases getV_key hw.s r with ⟨x, hx, rfl, he⟩ | ⟨_, he⟩
    · have := h x hx
      unfold gapOf at this
      split at this
      · simp at this
      · omega
    · rw [he]; exact (getV_bd hv.ok r).1
  · intro h x hx
    have := h x.1
    rw [getV_mem hw.s hx] at this
    unfold gapOf
    rw [if_neg (by omega)]
theorem join_vec {v w : List Ve} (hv : Vec v) (hw : Vec w) : Vec (joinV v w) := (joinV_vec hv hw.b).1
theorem join_len {v w : List Ve} (hv : Vec v) (hw : Vec w) : (joinV v w).length ≤ v.length + w.length := (joinV_vec hv hw.b).2
theorem law_assoc {u v w : List Ve} (hu : Vec u) (hv : Vec v) (hw : Vec w) : joinV u (joinV v w) = joinV (joinV u v) w :=
  vec_ext (join_vec hu (join_vec hv hw)) (join_vec (join_vec hu hv) hw) fun r => by
    rw [getV_join hu (join_vec hv hw), getV_join hv hw, getV_join (join_vec hu hv) hw, getV_join hu hv]; omega
theorem law_turn {u v w : List Ve} (hu : Vec u) (hv : Vec v) (hw : Vec w) : joinV (joinV w v) u = joinV (joinV u v) w :=
  vec_ext (join_vec (join_vec hw hv) hu) (join_vec (join_vec hu hv) hw) fun r => by
    rw [getV_join (join_vec hw hv) hu, getV_join hw hv, getV_join (join_vec hu hv) hw, getV_join hu hv]; omega
theorem law_self {u : List Ve} (hu : Vec u) : joinV u u = u :=
  vec_ext (join_vec hu hu) hu fun r => by rw [getV_join hu hu]; omega
theorem law_cov1 {u v : List Ve} (hu : Vec u) (hv : Vec v) : covV (joinV u v) u = true := (covV_iff (join_vec hu hv) hu).2 fun r => by rw [getV_join hu hv]; omega
theorem law_cov2 {u v : List Ve} (hu : Vec u) (hv : Vec v) : covV (joinV u v) v = true := (covV_iff (join_vec hu hv) hv).2 fun r => by rw [getV_join hu hv]; omega
theorem law_cov3 {u v w : List Ve} (hu : Vec u) (hv : Vec v) (hw : Vec w) : covV w (joinV u v) = (covV w u && covV w v) := by
  rw [Bool.eq_iff_iff, Bool.and_eq_true, covV_iff hw (join_vec hu hv), covV_iff hw hu, covV_iff hw hv]
  constructor
  · intro h
    refine ⟨fun r => ?_, fun r => ?_⟩
    · have := h r; rw [getV_join hu hv] at this; omega
    · have := h r; rw [getV_join hu hv] at this; omega
  · intro ⟨h1, h2⟩ r
    have := h1 r
    have := h2 r
    rw [getV_join hu hv]; omega
end Go.Proofs.YtnfcjdgmhbhecaaDoor
