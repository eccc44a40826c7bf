/- slices.SortFunc at spans. -/
import Derived.Sort.OwnSorted
import Derived.Test.YtclhjcbnpdlgbaaDoorLXBA3
import Derived.Test.YtclhjcbnpdlgbaaDoorLXBSO
namespace Go.Proofs.YtclhjcbnpdlgbaaDoor.Srt
open Go Go.RowKit Go.Shelf Go.Lib Go.Sort

theorem holds_idblock {w : World} {g : Nat} {cur F : Array Value} {e : TypeId} (hb : w.heap[g]? = some (.cells cur e (0, 0))) (ht : cur.toList.take F.size = F.toList) : Holds id w g 0 F := by
  intro j hj
  refine ⟨?_, by simp [World.frozen?, hb]⟩
  have h1 : (cur.toList.take F.size)[j]? = F.toList[j]? := by rw [ht]
  rw [List.getElem?_take_of_lt hj] at h1
  simp only [World.cell?, hb, Nat.zero_add]
  simp only [Option.isSome_none, Bool.false_eq_true, if_false]
  rw [← Array.getElem?_toList, h1]
  simp [hj]
theorem heap_idsorted {w : World} {g n : Nat} {os : Array Obj} {cur : Array Value} {e : TypeId} {fr : Nat × Nat} (F : Array Value) (hb : w.heap[g]? = some (.cells cur e fr)) :
    (grow (putRow id (Sort.ahead w n) g 0 F) os).heap[g]? = some (.cells (putCells id 0 F cur) e fr) := by
  have hg : g < w.heap.size := (Array.getElem?_eq_some_iff.1 hb).1
  rw [heap_grow_old _ _ (by simpa using hg)]
  simp [putRow, mapBlock, Sort.ahead, Array.getElem?_modify, hb, onCells]
theorem grownBy_idsorted {w : World} {g n : Nat} {os : Array Obj} (F : Array Value) : w.grownBy (grow (putRow id (Sort.ahead w n) g 0 F) os) (some g) := by
  refine ⟨rfl, rfl, rfl, by simp, fun k hk hne => ?_⟩
  rw [heap_grow_old _ _ (by simpa using hk)]
  have : g ≠ k := fun e => hne (by rw [e])
  simp [putRow, mapBlock, Sort.ahead, Array.getElem?_modify, this]
theorem take_idput (cur F : Array Value) (h : F.size ≤ cur.size) : (putCells id 0 F cur).toList.take F.size = F.toList := by
  apply List.ext_getElem?
  intro j
  by_cases hj : j < F.size
  · rw [List.getElem?_take_of_lt hj, Array.getElem?_toList]
    simp [putCells, hj, show j < cur.size by omega]
  · rw [List.getElem?_take_eq_none (by omega), List.getElem?_eq_none (by simp; omega)]
theorem fm_get : ∀ (zs : List S3) (t : Nat) (x : S3), zs[t / 3]? = some x → (zs.flatMap s3v)[t]? = (s3v x)[t % 3]?
  | [], t, x, h => by simp at h
  | z :: zs, t, x, h => by
    rw [List.flatMap_cons, List.getElem?_append]
    have hl : (s3v z).length = 3 := rfl
    rw [hl]
    by_cases ht : t < 3
    · have h0 : t / 3 = 0 := by omega
      rw [h0] at h
      simp at h; subst h
      rw [if_pos ht, Nat.mod_eq_of_lt ht]
    · rw [if_neg ht, fm_get zs (t - 3) x ?_, show (t - 3) % 3 = t % 3 by omega]
      rw [show t / 3 = (t - 3) / 3 + 1 by omega, List.getElem?_cons_succ] at h
      exact h
theorem flat_eq (zs : List S3) : (flatK s3v 3 zs.toArray).toList = zs.flatMap s3v := by
  apply List.ext_getElem?
  intro t
  by_cases ht : t < zs.length * 3
  · obtain ⟨x, hx⟩ : ∃ x, zs[t / 3]? = some x := ⟨_, List.getElem?_eq_getElem (by omega)⟩
    rw [fm_get zs t _ hx, Array.getElem?_toList]
    have hlt : t < (flatK s3v 3 zs.toArray).size := by simpa using ht
    have h1 := get_flatK s3v 3 zs.toArray t (by simpa using ht)
    have h2 : zs.toArray[t / 3]! = x := by
      have h' : zs.toArray[t / 3]? = some x := by simpa using hx
      simp [getElem!_def, h']
    have h3 : t % 3 < (s3v x).length := by show t % 3 < 3; omega
    rw [h2, getElem!_pos (flatK s3v 3 zs.toArray) t hlt, getElem!_pos (s3v x) (t % 3) h3] at h1
    rw [Array.getElem?_eq_getElem hlt, h1, List.getElem?_eq_getElem h3]
  · rw [List.getElem?_eq_none (by simp; omega), List.getElem?_eq_none (by rw [flat_len]; omega)]
def cfS (x y : S3) : Int := orI (cmpI x.1 y.1) (cmpI x.2.1 y.2.1)
theorem cfS_lt (x y : S3) : ltOf cfS x y = decide (x.1 < y.1 ∨ (x.1 = y.1 ∧ x.2.1 < y.2.1)) := by
  unfold ltOf cfS orI cmpI
  rw [decide_eq_decide]
  by_cases h1 : x.1 < y.1
  · simp [h1]
  · by_cases h2 : y.1 < x.1
    · simp [h1, h2]; omega
    · have : x.1 = y.1 := by omega
      by_cases h3 : x.2.1 < y.2.1
      · simp [this, h3]
      · by_cases h4 : y.2.1 < x.2.1 <;> simp [this, h3, h4]
theorem swoS : SWO (ltOf cfS) where
  irrefl x := by rw [cfS_lt]; simp
  trans x y z h1 h2 := by rw [cfS_lt] at *; simp at *; omega
  ntrans x y z h1 h2 := by rw [cfS_lt] at *; simp at *; omega
def srtS (zs : List S3) : List S3 := (pdq (ltOf cfS) zs.toArray 0 zs.toArray.size (Lib.bitLen zs.toArray.size) true true).toList
theorem srtS_len (zs : List S3) : (srtS zs).length = zs.length := by
  have h := (pdq_sorts (ltOf cfS) swoS zs.toArray 0 zs.toArray.size (Lib.bitLen zs.toArray.size) true true (Nat.zero_le _) (Nat.le_refl _) (Or.inl rfl)).1.1
  unfold srtS
  rw [Array.length_toList, h]; simp
theorem sortFunc_call (zs : List S3) (g cap base : Nat) (w : World) (hz : zs.length < 4611686018427387904) (hown : w.ownsRow base 67 3 (.slice (some ⟨g, 0, none⟩) zs.length cap) zs.length (zs.flatMap s3v)) :
    Calls Tryd.prog 54 #[.slice (some ⟨g, 0, none⟩) zs.length cap, .func (.func 50) #[] #[]] w fun e w' => e = .returned (.tuple #[]) ∧
      w'.ownsRow base 67 3 (.slice (some ⟨g, 0, none⟩) zs.length cap) zs.length ((srtS zs).flatMap s3v) ∧ w.grownBy w' (some g) := by
  rcases hown.2 with ⟨h, _⟩ | ⟨g', cap', cur, e1, hbase, hb, h1, h2, h3, h4⟩
  · cases h
  cases e1
  have hF : cur.toList.take (flatK s3v 3 zs.toArray).size = (flatK s3v 3 zs.toArray).toList := by
    rw [flat_eq, size_flatK]
    simpa using h4
  have hH : HoldsK s3v 3 w g 0 zs.toArray := holds_idblock hb hF
  have hcmp : CmpLays Tryd.prog 50 #[] s3v 3 cfS g 0 zs.toArray.size w := fun m os dk _ x y => spancmp x y _
  have h := AnyQ.slices_SortFunc_eq Tryd.sortS 3 Tryd.isAgg67 Tryd.sizeOf67 s3v (fun _ => rfl) (fun x v hv => by simp [s3v] at hv; rcases hv with rfl | rfl | rfl <;> rfl) cfS swoS 50 #[] g 0 cap zs.toArray w (enters_of Tryd.func50 (by kernel_rfl) rfl) hcmp hH (Array.getElem?_eq_some_iff.1 hb).1 (by simpa using hz)
  rw [show zs.toArray.size = zs.length from by simp] at h
  refine Calls.mono h ?_
  rintro e w' ⟨rfl, n, os, rfl⟩
  have hs : (pdq (ltOf cfS) zs.toArray 0 zs.length (Lib.bitLen zs.length) true true) = (srtS zs).toArray := by unfold srtS; simp
  rw [hs]
  refine ⟨rfl, ⟨by rw [flat_len, srtS_len], .inr ⟨g, cap, putCells id 0 (flatK s3v 3 (srtS zs).toArray) cur, rfl, hbase, ?_, h1, h2, by simp [putCells, h3], ?_⟩⟩, grownBy_idsorted _⟩
  · exact heap_idsorted _ hb
  · have hsz : (flatK s3v 3 (srtS zs).toArray).size = zs.length * 3 := by rw [size_flatK]; simp [srtS_len]
    have := take_idput cur (flatK s3v 3 (srtS zs).toArray) (by rw [hsz, h3]; exact Nat.mul_le_mul_right _ h1)
    rw [hsz, flat_eq] at this
    exact this
end Go.Proofs.YtclhjcbnpdlgbaaDoor.Srt
