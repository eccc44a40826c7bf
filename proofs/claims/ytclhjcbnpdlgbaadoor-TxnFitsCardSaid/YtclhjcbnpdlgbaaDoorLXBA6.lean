/- span.sorted, as a contract of the ideal states. -/
import Derived.Test.YtclhjcbnpdlgbaaDoorLXBA5
import Derived.Test.YtclhjcbnpdlgbaaDoorLA3
namespace Go.Proofs.YtclhjcbnpdlgbaaDoor.Srt
open Go Go.Lift

def sp3 (a : S3) : List IV := [.v (.int .u16 a.1), .v (.int .u32 a.2.1), .v (.int .i64 a.2.2)]
theorem sp3_length (a : S3) : (sp3 a).length = 3 := rfl
theorem trl_s3 (R : Nat → Prop) (w : World) : ∀ zs : List S3, TRl R w (encs sp3 zs) (zs.flatMap s3v)
  | [] => by unfold TRl encs; rfl
  | x :: zs => by
    rw [encs_cons, List.flatMap_cons]
    refine TRl.append ?_ (trl_s3 R w zs)
    unfold sp3 s3v
    have one : ∀ v : Value, v.oneCell' = true → TR R w (.v v) v ∧ v.oneCell' = true := fun v h => ⟨by unfold TR; rfl, h⟩
    unfold TRl
    refine ⟨_, _, rfl, one _ rfl, ?_⟩
    unfold TRl
    refine ⟨_, _, rfl, one _ rfl, ?_⟩
    unfold TRl
    refine ⟨_, _, rfl, one _ rfl, ?_⟩
    unfold TRl
    rfl
theorem sorted_call (zs : List S3) (hreach : zs.length * 24 ≤ 140737488351232) : SCall Tryd.prog 46 [.tr zs.length (encs sp3 zs)] (.own 67 zs.length true (encs sp3 (srtS zs))) [.tr zs.length (encs sp3 zs)] := by
  obtain ⟨i0, hi, hz0, hz1, hz2⟩ := info_parts infoS3
  refine SCall.of_row rfl ⟨i0, hi, hz1, by decide⟩ (fun _ x hx => ?_) fun w R vals hB hlt => ?_
  · have : (encs sp3 (srtS zs)).all isV = true := encs_all (fun a => rfl) _
    exact all_isV this x hx
  · unfold BRl BRl at hB
    obtain ⟨y, ys, o1, o2, rfl, h1, ⟨rfl, rfl⟩, e1⟩ := hB
    unfold BR at h1
    obtain ⟨h1, _⟩ := h1
    unfold TR at h1
    obtain ⟨a, c, rfl, hc, h1⟩ := h1
    have hI : Spans w.heap.size w (.slice a zs.length c) zs := by
      rcases h1 with h1 | ⟨b, o, rfl, hR, hm⟩
      · have h0 : zs = [] := by
          cases zs with
          | nil => rfl
          | cons x zs => rw [encs_cons] at h1; simp [sp3] at h1
        subst h0
        exact .inl ⟨a, c, rfl, rfl⟩
      · refine .inr ⟨b, o, c, rfl, hlt b hR, fun j x hx => ?_⟩
        have g : ∀ i (v : Value), i < 3 → (sp3 x)[i]? = some (.v v) → w.cell? ⟨b, o + (j * 3 + i), none⟩ = some v := fun i v hi hv => by
          obtain ⟨y, y1, y2, _⟩ := TRm.get hm (j * 3 + i) (.v v) (by rw [encs_get sp3_length hx hi]; exact hv)
          unfold TR at y2
          rw [y1, y2]
        refine ⟨?_, ?_, ?_⟩
        · have := g 0 _ (by decide) rfl
          simpa using this
        · have := g 1 _ (by decide) rfl
          rwa [← Nat.add_assoc] at this
        · have := g 2 _ (by decide) rfl
          rwa [← Nat.add_assoc] at this
    refine (sorted_c a zs.length c zs hreach w hI).mono ?_
    rintro e w' ⟨v, rfl, g1, g2⟩
    exact ⟨v, _, rfl, g1, trl_s3 R w' _, g2⟩
end Go.Proofs.YtclhjcbnpdlgbaaDoor.Srt
namespace Go.Proofs.YtclhjcbnpdlgbaaDoor.Srt
open Go Go.Lift Go.Sort
theorem srtS_perm (zs : List S3) : (srtS zs).Perm zs := by
  have h := (pdq_sorts (ltOf cfS) swoS zs.toArray 0 zs.toArray.size (Lib.bitLen zs.toArray.size) true true (Nat.zero_le _) (Nat.le_refl _) (Or.inl rfl)).1
  have h2 := h.2.2
  unfold srtS
  generalize pdq (ltOf cfS) zs.toArray 0 zs.toArray.size (Lib.bitLen zs.toArray.size) true true = d at *
  have hs : d.size = zs.toArray.size := h.1
  have e1 : d.extract 0 zs.toArray.size = d := by rw [← hs]; simp
  have e2 : zs.toArray.extract 0 zs.toArray.size = zs.toArray := by simp
  rw [e1, e2] at h2
  simpa using h2
theorem srtS_sorted (zs : List S3) : (srtS zs).Pairwise fun x y => x.1 < y.1 ∨ (x.1 = y.1 ∧ x.2.1 ≤ y.2.1) := by
  have h := (pdq_sorts (ltOf cfS) swoS zs.toArray 0 zs.toArray.size (Lib.bitLen zs.toArray.size) true true (Nat.zero_le _) (Nat.le_refl _) (Or.inl rfl))
  have h1 := h.1.1
  have h2 := h.2
  unfold srtS
  generalize pdq (ltOf cfS) zs.toArray 0 zs.toArray.size (Lib.bitLen zs.toArray.size) true true = d at *
  rw [List.pairwise_iff_getElem]
  intro i j hi hj hij
  simp only [Array.length_toList] at hi hj
  have := h2 i j (Nat.zero_le _) hij (by omega)
  rw [getElem!_pos d i hi, getElem!_pos d j hj, cfS_lt] at this
  simp only [Array.getElem_toList]
  simp only [decide_eq_false_iff_not] at this
  omega
end Go.Proofs.YtclhjcbnpdlgbaaDoor.Srt
