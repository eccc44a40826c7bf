/- Spans: the names that are in others, and those that aren't (plain). -/
import Derived.Test.YtnfcjdgmhbhecaaLX8S3
import Derived.Test.YtnfcjdgmhbhecaaLX8P3
namespace Go.Proofs.Ytnfcjdgmhbhecaa
open Go Go.Lift
set_option maxHeartbeats 4000000
set_option linter.unusedSimpArgs false
set_option linter.unusedVariables false

def hasSp (s : Sp) (a : Nm) : Prop := a.1 = s.1 ∧ s.2.1 ≤ a.2 ∧ a.2 ≤ s.2.1 + (s.2.2 - 1)
instance (s : Sp) (a : Nm) : Decidable (hasSp s a) := by unfold hasSp; infer_instance
def inSp (l : List Sp) (a : Nm) : Bool := l.any fun s => decide (hasSp s a)
def lessOf (l W : List Sp) : List Sp := spanOf ((idsOf l).filter fun a => !inSp W a)
theorem idsOne_right (s : Sp) (h : rightI s) : idsOne s s.2.2.toNat = (List.range s.2.2.toNat).map fun (i : Nat) => (s.1, s.2.1 + (i : Int)) := by
  unfold idsOne
  refine List.map_congr_left fun i hi => ?_
  rw [List.mem_range] at hi
  unfold rightI at h
  rw [wrap_u32 (n := (i : Int)) (by omega) (by omega), wrap_u32 (by omega) (by omega)]
theorem mem_idsOne (s : Sp) (h : rightI s) (a : Nm) : a ∈ idsOne s s.2.2.toNat ↔ hasSp s a := by
  rw [idsOne_right s h, List.mem_map]
  unfold hasSp
  obtain ⟨a1, a2⟩ := a
  constructor
  · rintro ⟨i, hi, e⟩
    rw [List.mem_range] at hi
    cases e
    exact ⟨rfl, by simp only; omega, by simp only; omega⟩
  · rintro ⟨e, h1, h2⟩
    simp only at e h1 h2
    refine ⟨(a2 - s.2.1).toNat, by rw [List.mem_range]; omega, ?_⟩
    rw [e, show s.2.1 + (((a2 - s.2.1).toNat : Nat) : Int) = a2 by omega]
theorem mem_idsOf (l : List Sp) (h : ∀ s ∈ l, rightI s) (a : Nm) : a ∈ idsOf l ↔ inSp l a = true := by
  unfold idsOf inSp
  rw [List.mem_flatMap, List.any_eq_true]
  constructor
  · rintro ⟨s, hs, ha⟩
    exact ⟨s, hs, decide_eq_true ((mem_idsOne s (h s hs) a).1 ha)⟩
  · rintro ⟨s, hs, ha⟩
    exact ⟨s, hs, (mem_idsOne s (h s hs) a).2 (of_decide_eq_true ha)⟩
theorem ids_range (l : List Sp) (h : ∀ s ∈ l, rightI s) (a : Nm) (ha : a ∈ idsOf l) : 1 ≤ a.2 ∧ a.2 ≤ 268435456 := by
  unfold idsOf at ha
  rw [List.mem_flatMap] at ha
  obtain ⟨s, hs, ha⟩ := ha
  have h1 := h s hs
  have h2 := (mem_idsOne s h1 a).1 ha
  unfold rightI at h1
  unfold hasSp at h2
  omega
theorem ofStep_right (out : List Sp) (a : Nm) (h : ∀ s ∈ out, rightI s) (ha : 1 ≤ a.2 ∧ a.2 ≤ 268435456) : ∀ s ∈ ofStep out a, rightI s := by
  have h1 : rightI (a.1, a.2, 1) := by unfold rightI; simp only; omega
  rcases nil_or_snoc out with rfl | ⟨p, s, rfl⟩
  · rw [ofStep_nil]
    intro x hx
    rw [List.mem_singleton.1 hx]; exact h1
  · have hs := h s (by simp)
    rw [ofStep_snoc]
    have hs' := hs
    unfold rightI at hs'
    split
    · rename_i hc
      rw [wrap_u32 (n := s.2.2) (by omega) (by omega), wrap_u32 (by omega) (by omega)] at hc
      intro x hx
      simp only [List.mem_append, List.mem_cons, List.not_mem_nil, or_false] at hx
      rcases hx with hx | rfl
      · exact h x (by simp [hx])
      · unfold rightI; simp only; omega
    · intro x hx
      simp only [List.mem_append, List.mem_cons, List.not_mem_nil, or_false] at hx
      rcases hx with (hx | rfl) | rfl
      · exact h x (by simp [hx])
      · exact hs
      · exact h1
theorem spanOf_right (l : List Nm) (hg : ∀ a ∈ l, 1 ≤ a.2 ∧ a.2 ≤ 268435456) : ∀ s ∈ spanOf l, rightI s := by
  have key : ∀ (m : List Nm) (out : List Sp), (∀ a ∈ m, 1 ≤ a.2 ∧ a.2 ≤ 268435456) → (∀ s ∈ out, rightI s) → ∀ s ∈ m.foldl ofStep out, rightI s := by
    intro m
    induction m with
    | nil => intro out _ h; exact h
    | cons a m ih =>
      intro out hm h
      exact ih (ofStep out a) (fun b hb => hm b (by simp [hb])) (ofStep_right out a h (hm a (by simp)))
  exact key l [] hg (by simp)
theorem ids_spanOf (l : List Nm) (hg : ∀ a ∈ l, 1 ≤ a.2 ∧ a.2 ≤ 268435456) : idsOf (spanOf l) = l := by
  have := (idsOf_spanOf l hg l.length (Nat.le_refl _)).2
  rwa [List.take_length] at this
theorem spanOf_len (l : List Nm) (hg : ∀ a ∈ l, 1 ≤ a.2 ∧ a.2 ≤ 268435456) : (spanOf l).length ≤ l.length := by
  have := (idsOf_spanOf l hg l.length (Nat.le_refl _)).1.1
  rwa [List.take_length] at this
theorem tot_ids (l : List Sp) (h : ∀ s ∈ l, rightI s) : tot l = ((idsOf l).length : Int) := by
  induction l with
  | nil => rfl
  | cons s l ih =>
    have h1 := h s (by simp)
    unfold rightI at h1
    have h2 := ih fun x hx => h x (by simp [hx])
    unfold tot idsOf at h2 ⊢
    rw [List.map_cons, List.sum_cons, List.flatMap_cons, List.length_append, h2, idsOne_length]
    omega
theorem idsOne_nodup (s : Sp) (h : rightI s) : (idsOne s s.2.2.toNat).Nodup := by
  rw [idsOne_right s h]
  unfold List.Nodup
  rw [List.pairwise_map]
  refine List.nodup_range.imp fun {i j} hij he => hij ?_
  have := congrArg Prod.snd he
  simp only at this
  omega
theorem nodup_apart (l : List Sp) (h : ∀ s ∈ l, rightI s) : (idsOf l).Nodup ↔ apartI l := by
  rw [apart_pw]
  unfold idsOf List.Nodup
  rw [List.pairwise_flatMap]
  constructor
  · rintro ⟨_, h2⟩
    refine List.Pairwise.imp_of_mem (fun {a b} ha hb hab hm => ?_) h2
    have h1 := h a ha
    have h3 := h b hb
    have h1' := h1
    have h3' := h3
    unfold rightI at h1 h3
    unfold meetI at hm
    let c : Nm := (a.1, if a.2.1 ≤ b.2.1 then b.2.1 else a.2.1)
    refine hab c ((mem_idsOne a h1' c).2 ?_) c ((mem_idsOne b h3' c).2 ?_) rfl
    · unfold hasSp; refine ⟨rfl, ?_, ?_⟩ <;> simp only [c] <;> split <;> omega
    · unfold hasSp; refine ⟨hm.1, ?_, ?_⟩ <;> simp only [c] <;> split <;> omega
  · intro h2
    refine ⟨fun a ha => idsOne_nodup a (h a ha), ?_⟩
    refine List.Pairwise.imp_of_mem (fun {a b} ha hb hab x hx y hy e => hab ?_) h2
    subst e
    have h1 := (mem_idsOne a (h a ha) x).1 hx
    have h3 := (mem_idsOne b (h b hb) x).1 hy
    unfold hasSp at h1 h3
    unfold meetI
    omega
theorem less_names (l W : List Sp) (hl : ∀ s ∈ l, rightI s) : ∀ a ∈ (idsOf l).filter fun a => !inSp W a, 1 ≤ a.2 ∧ a.2 ≤ 268435456 := fun a ha => ids_range l hl a (List.mem_filter.1 ha).1
theorem less_ids (l W : List Sp) (hl : ∀ s ∈ l, rightI s) : idsOf (lessOf l W) = (idsOf l).filter fun a => !inSp W a := ids_spanOf _ (less_names l W hl)
theorem less_right (l W : List Sp) (hl : ∀ s ∈ l, rightI s) : ∀ s ∈ lessOf l W, rightI s := spanOf_right _ (less_names l W hl)
theorem less_len (l W : List Sp) (hl : ∀ s ∈ l, rightI s) : (lessOf l W).length ≤ (idsOf l).length := Nat.le_trans (spanOf_len _ (less_names l W hl)) (List.length_filter_le _ _)
theorem ids_app (l m : List Sp) : idsOf (l ++ m) = idsOf l ++ idsOf m := by unfold idsOf; rw [List.flatMap_append]
/-- what is in others, and what isn't -/
theorem less_less (l W : List Sp) (hl : ∀ s ∈ l, rightI s) : idsOf (lessOf l (lessOf l W)) = (idsOf l).filter fun a => inSp W a := by
  rw [less_ids l _ hl]
  refine List.filter_congr fun a ha => ?_
  have h1 := mem_idsOf (lessOf l W) (less_right l W hl) a
  rw [less_ids l W hl, List.mem_filter] at h1
  cases h2 : inSp W a <;> cases h3 : inSp (lessOf l W) a <;> simp_all
theorem laws_total (l W : List Sp) (hl : ∀ s ∈ l, rightI s) : (idsOf (lessOf l W ++ lessOf l (lessOf l W))).length = (idsOf l).length := by
  rw [ids_app, less_ids l W hl, less_less l W hl, List.length_append]
  generalize idsOf l = m
  induction m with
  | nil => rfl
  | cons a m ih =>
    rw [List.filter_cons, List.filter_cons]
    cases inSp W a <;> simp at ih ⊢ <;> omega
theorem laws_apart (l W : List Sp) (hl : ∀ s ∈ l, rightI s) (ha : apartI l) : apartI (lessOf l W ++ lessOf l (lessOf l W)) := by
  have hr : ∀ s ∈ lessOf l W ++ lessOf l (lessOf l W), rightI s := fun s hs => by
    rcases List.mem_append.1 hs with h | h
    · exact less_right l W hl s h
    · exact less_right l _ hl s h
  rw [← nodup_apart _ hr, ids_app, less_ids l W hl, less_less l W hl]
  have hn := (nodup_apart l hl).2 ha
  rw [List.nodup_append]
  refine ⟨hn.filter _, hn.filter _, fun a h1 b h2 e => ?_⟩
  subst e
  have h1 := (List.mem_filter.1 h1).2
  have h2 := (List.mem_filter.1 h2).2
  rw [h2] at h1
  cases h1
theorem laws_self (l : List Sp) (hl : ∀ s ∈ l, rightI s) : lessOf l l = [] := by
  have : (idsOf l).filter (fun a => !inSp l a) = [] := by
    rw [List.filter_eq_nil_iff]
    intro a ha
    rw [(mem_idsOf l hl a).1 ha]; simp
  unfold lessOf
  rw [this]; rfl
theorem laws_in (l W : List Sp) (hl : ∀ s ∈ l, rightI s) : lessOf (lessOf l (lessOf l W)) W = [] := by
  have : (idsOf (lessOf l (lessOf l W))).filter (fun a => !inSp W a) = [] := by
    rw [less_less l W hl, List.filter_eq_nil_iff]
    intro a ha
    rw [(List.mem_filter.1 ha).2]; simp
  show spanOf ((idsOf (lessOf l (lessOf l W))).filter fun a => !inSp W a) = []
  rw [this]; rfl
theorem laws_nil (l : List Sp) : lessOf l [] = spanOf (idsOf l) := by
  unfold lessOf
  rw [List.filter_eq_self.2]
  intro a _; rfl
end Go.Proofs.Ytnfcjdgmhbhecaa
