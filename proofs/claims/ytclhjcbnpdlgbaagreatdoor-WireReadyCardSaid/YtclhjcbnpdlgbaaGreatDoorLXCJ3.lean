import Derived.Shelf.SlGeneric
import Derived.Shelf.SlLaysF0
import Derived.Ground.SlsfProg
import Derived.Test.YtclhjcbnpdlgbaaGreatDoorProg
import Derived.Sort.OwnSorted
import Derived.Shelf.SlSortCmp.NoneTotal
import Derived.Test.YtclhjcbnpdlgbaaGreatDoorLXCA3
import Derived.Test.YtclhjcbnpdlgbaaGreatDoorLA3
import Derived.Test.YtclhjcbnpdlgbaaGreatDoorLA2
set_option linter.unusedVariables false
set_option linter.unusedSimpArgs false
/-
  DERIVED: THE SHELF's CONTRACTS AT THIS DUMP, IN PLAIN WORDS (tools/lay-plain.mjs out of 'TryzSort.lean', which tools/lay-shelf.mjs wrote): THE SAME DECLARATIONS UNDER THE SAME NAMES: 'import', 'namespace', 'open', 'def', 'theorem' AND NOTHING ELSE: no command of the shelf's: FOR A HAND-IN. Each laying: the table of numbers ('.._ren') and one theorem, a field a fact of the dump's own or the kernel's comparison; each contract: ONE APPLICATION.
-/
namespace Go.Proofs
open Go.Shelf
def Tryz.sortS_ren : Go.Shelf.Ren := ⟨fun | 6 => 119 | 15 => 126 | 14 => 125 | 28 => 137 | 29 => 138 | 20 => 129 | 21 => 130 | 22 => 131 | 23 => 132 | 24 => 133 | 25 => 134 | 26 => 135 | 27 => 136 | 46 => 139 | 47 => 140 | 48 => 141 | 49 => 142 | 50 => 143 | 57 => 144 | n => n, fun | 22 => 77 | 24 => 156 | 25 => 174 | 3 => 3 | 39 => 54 | 0 => 0 | 53 => 25 | 55 => 26 | 4 => 4 | 46 => 189 | 45 => 188 | 50 => 114 | 5 => 5 | 9 => 9 | 66 => 196 | 70 => 200 | 76 => 202 | 77 => 203 | n => n, fun | n => n⟩
theorem Tryz.sortS : Go.Proofs.SlLaysF0.n6 Tryz.prog Tryz.sortS_ren := {
  mixed := by kernel_rfl
  f6 := ⟨Tryz.f119.name, by decide, Tryz.func119.trans (congrArg some (by kernel_rfl))⟩
  f14 := ⟨Tryz.f125.name, by decide, Tryz.func125.trans (congrArg some (by kernel_rfl))⟩
  f15 := Tryz.func126.trans (congrArg some (by kernel_rfl))
  f20 := ⟨Tryz.f129.name, by decide, Tryz.func129.trans (congrArg some (by kernel_rfl))⟩
  f21 := ⟨Tryz.f130.name, by decide, Tryz.func130.trans (congrArg some (by kernel_rfl))⟩
  f22 := ⟨Tryz.f131.name, by decide, Tryz.func131.trans (congrArg some (by kernel_rfl))⟩
  f23 := ⟨Tryz.f132.name, by decide, Tryz.func132.trans (congrArg some (by kernel_rfl))⟩
  f24 := ⟨Tryz.f133.name, by decide, Tryz.func133.trans (congrArg some (by kernel_rfl))⟩
  f25 := ⟨Tryz.f134.name, by decide, Tryz.func134.trans (congrArg some (by kernel_rfl))⟩
  f26 := ⟨Tryz.f135.name, by decide, Tryz.func135.trans (congrArg some (by kernel_rfl))⟩
  f27 := ⟨Tryz.f136.name, by decide, Tryz.func136.trans (congrArg some (by kernel_rfl))⟩
  f28 := Tryz.func137.trans (congrArg some (by kernel_rfl))
  f29 := Tryz.func138.trans (congrArg some (by kernel_rfl))
  f46 := ⟨Tryz.f139.name, by decide, Tryz.func139.trans (congrArg some (by kernel_rfl))⟩
  f47 := Tryz.func140.trans (congrArg some (by kernel_rfl))
  f48 := Tryz.func141.trans (congrArg some (by kernel_rfl))
  f49 := ⟨Tryz.f142.name, by decide, Tryz.func142.trans (congrArg some (by kernel_rfl))⟩
  f50 := ⟨Tryz.f143.name, by decide, Tryz.func143.trans (congrArg some (by kernel_rfl))⟩
  f57 := ⟨Tryz.f144.name, by decide, Tryz.func144.trans (congrArg some (by kernel_rfl))⟩
  t0 := Tryz.underlying0
  a0 := Tryz.isAgg0
  z0 := Tryz.sizeOf0
  v0 := Tryz.zeroValue0
  t3 := Tryz.underlying3
  a3 := Tryz.isAgg3
  z3 := Tryz.sizeOf3
  v3 := Tryz.zeroValue3
  t4 := Tryz.underlying4
  a4 := Tryz.isAgg4
  z4 := Tryz.sizeOf4
  v4 := Tryz.zeroValue4
  t5 := Tryz.underlying5
  a5 := Tryz.isAgg5
  z5 := Tryz.sizeOf5
  v5 := Tryz.zeroValue5
  t9 := Tryz.underlying9
  a9 := Tryz.isAgg9
  z9 := Tryz.sizeOf9
  v9 := Tryz.zeroValue9
  t22 := Tryz.underlying77
  a22 := Tryz.isAgg77
  z22 := Tryz.sizeOf77
  v22 := Tryz.zeroValue77
  t25 := Tryz.underlying174
  a25 := Tryz.isAgg174
  z25 := Tryz.sizeOf174
  v25 := Tryz.zeroValue174
  t39 := Tryz.underlying54
  a39 := Tryz.isAgg54
  z39 := Tryz.sizeOf54
  v39 := Tryz.zeroValue54
  t45 := Tryz.underlying188
  a45 := Tryz.isAgg188
  z45 := Tryz.sizeOf188
  v45 := Tryz.zeroValue188
  t46 := Tryz.underlying189
  a46 := Tryz.isAgg189
  z46 := Tryz.sizeOf189
  v46 := Tryz.zeroValue189
  t50 := Tryz.underlying114
  a50 := Tryz.isAgg114
  z50 := Tryz.sizeOf114
  v50 := Tryz.zeroValue114
  t53 := Tryz.underlying25
  a53 := Tryz.isAgg25
  z53 := Tryz.sizeOf25
  v53 := Tryz.zeroValue25
  t55 := Tryz.underlying26
  a55 := Tryz.isAgg26
  z55 := Tryz.sizeOf26
  v55 := Tryz.zeroValue26
  t66 := Tryz.underlying196
  a66 := Tryz.isAgg196
  z66 := Tryz.sizeOf196
  v66 := Tryz.zeroValue196
  t70 := Tryz.underlying200
  a70 := Tryz.isAgg200
  z70 := Tryz.sizeOf200
  v70 := Tryz.zeroValue200
  t76 := Tryz.underlying202
  a76 := Tryz.isAgg202
  z76 := Tryz.sizeOf202
  v76 := Tryz.zeroValue202
  t77 := Tryz.underlying203
  a77 := Tryz.isAgg203
  z77 := Tryz.sizeOf203
  v77 := Tryz.zeroValue203 }
end Go.Proofs
/- slices.SortFunc at spans. -/
namespace Go.Proofs.YtclhjcbnpdlgbaaGreatDoor.Srt
open Go Go.RowKit Go.Shelf Go.Lib Go.Sort

theorem holds_idblock {w : World} {g : Nat} {cur F : Array Value} {e : TypeId} (hb : w.heap[g]? = some (.cells cur e (0, 0))) (ht : cur.toList.take F.size = F.toList) : Holds id w g 0 F := by
  intro j hj
  refine ⟨?_, by simp [World.frozen?, hb]⟩
  have h1 : (cur.toList.take F.size)[j]? = F.toList[j]? := by rw [ht]
  rw [List.getElem?_take_of_lt hj] at h1
  simp only [World.cell?, hb, Nat.zero_add]
  simp only [Option.isSome_none, Bool.false_eq_true, if_false]
  rw [← Array.getElem?_toList, h1]
  simp [hj]
theorem heap_idsorted {w : World} {g n : Nat} {os : Array Obj} {cur : Array Value} {e : TypeId} {fr : Nat × Nat} (F : Array Value) (hb : w.heap[g]? = some (.cells cur e fr)) :
    (grow (putRow id (Sort.ahead w n) g 0 F) os).heap[g]? = some (.cells (putCells id 0 F cur) e fr) := by
  have hg : g < w.heap.size := (Array.getElem?_eq_some_iff.1 hb).1
  rw [heap_grow_old _ _ (by simpa using hg)]
  simp [putRow, mapBlock, Sort.ahead, Array.getElem?_modify, hb, onCells]
theorem grownBy_idsorted {w : World} {g n : Nat} {os : Array Obj} (F : Array Value) : w.grownBy (grow (putRow id (Sort.ahead w n) g 0 F) os) (some g) := by
  refine ⟨rfl, rfl, rfl, by simp, fun k hk hne => ?_⟩
  rw [heap_grow_old _ _ (by simpa using hk)]
  have : g ≠ k := fun e => hne (by rw [e])
  simp [putRow, mapBlock, Sort.ahead, Array.getElem?_modify, this]
theorem take_idput (cur F : Array Value) (h : F.size ≤ cur.size) : (putCells id 0 F cur).toList.take F.size = F.toList := by
  apply List.ext_getElem?
  intro j
  by_cases hj : j < F.size
  · rw [List.getElem?_take_of_lt hj, Array.getElem?_toList]
    simp [putCells, hj, show j < cur.size by omega]
  · rw [List.getElem?_take_eq_none (by omega), List.getElem?_eq_none (by simp; omega)]
theorem fm_get : ∀ (zs : List S3) (t : Nat) (x : S3), zs[t / 3]? = some x → (zs.flatMap s3v)[t]? = (s3v x)[t % 3]?
  | [], t, x, h => by simp at h
  | z :: zs, t, x, h => by
    rw [List.flatMap_cons, List.getElem?_append]
    have hl : (s3v z).length = 3 := rfl
    rw [hl]
    by_cases ht : t < 3
    · have h0 : t / 3 = 0 := by omega
      rw [h0] at h
      simp at h; subst h
      rw [if_pos ht, Nat.mod_eq_of_lt ht]
    · rw [if_neg ht, fm_get zs (t - 3) x ?_, show (t - 3) % 3 = t % 3 by omega]
      rw [show t / 3 = (t - 3) / 3 + 1 by omega, List.getElem?_cons_succ] at h
      exact h
theorem flat_eq (zs : List S3) : (flatK s3v 3 zs.toArray).toList = zs.flatMap s3v := by
  apply List.ext_getElem?
  intro t
  by_cases ht : t < zs.length * 3
  · obtain ⟨x, hx⟩ : ∃ x, zs[t / 3]? = some x := ⟨_, List.getElem?_eq_getElem (by omega)⟩
    rw [fm_get zs t _ hx, Array.getElem?_toList]
    have hlt : t < (flatK s3v 3 zs.toArray).size := by simpa using ht
    have h1 := get_flatK s3v 3 zs.toArray t (by simpa using ht)
    have h2 : zs.toArray[t / 3]! = x := by
      have h' : zs.toArray[t / 3]? = some x := by simpa using hx
      simp [getElem!_def, h']
    have h3 : t % 3 < (s3v x).length := by show t % 3 < 3; omega
    rw [h2, getElem!_pos (flatK s3v 3 zs.toArray) t hlt, getElem!_pos (s3v x) (t % 3) h3] at h1
    rw [Array.getElem?_eq_getElem hlt, h1, List.getElem?_eq_getElem h3]
  · rw [List.getElem?_eq_none (by simp; omega), List.getElem?_eq_none (by rw [flat_len]; omega)]
def cfS (x y : S3) : Int := orI (cmpI x.1 y.1) (cmpI x.2.1 y.2.1)
theorem cfS_lt (x y : S3) : ltOf cfS x y = decide (x.1 < y.1 ∨ (x.1 = y.1 ∧ x.2.1 < y.2.1)) := by
  unfold ltOf cfS orI cmpI
  rw [decide_eq_decide]
  by_cases h1 : x.1 < y.1
  · simp [h1]
  · by_cases h2 : y.1 < x.1
    · simp [h1, h2]; omega
    · have : x.1 = y.1 := by omega
      by_cases h3 : x.2.1 < y.2.1
      · simp [this, h3]
      · by_cases h4 : y.2.1 < x.2.1 <;> simp [this, h3, h4]
theorem swoS : SWO (ltOf cfS) where
  irrefl x := by rw [cfS_lt]; simp
  trans x y z h1 h2 := by rw [cfS_lt] at *; simp at *; omega
  ntrans x y z h1 h2 := by rw [cfS_lt] at *; simp at *; omega
def srtS (zs : List S3) : List S3 := (pdq (ltOf cfS) zs.toArray 0 zs.toArray.size (Lib.bitLen zs.toArray.size) true true).toList
theorem srtS_len (zs : List S3) : (srtS zs).length = zs.length := by
  have h := (pdq_sorts (ltOf cfS) swoS zs.toArray 0 zs.toArray.size (Lib.bitLen zs.toArray.size) true true (Nat.zero_le _) (Nat.le_refl _) (Or.inl rfl)).1.1
  unfold srtS
  rw [Array.length_toList, h]; simp
theorem sortFunc_call (zs : List S3) (g cap base : Nat) (w : World) (hz : zs.length < 4611686018427387904) (hown : w.ownsRow base 156 3 (.slice (some ⟨g, 0, none⟩) zs.length cap) zs.length (zs.flatMap s3v)) :
    Calls Tryz.prog 119 #[.slice (some ⟨g, 0, none⟩) zs.length cap, .func (.func 116) #[] #[]] w fun e w' => e = .returned (.tuple #[]) ∧
      w'.ownsRow base 156 3 (.slice (some ⟨g, 0, none⟩) zs.length cap) zs.length ((srtS zs).flatMap s3v) ∧ w.grownBy w' (some g) := by
  rcases hown.2 with ⟨h, _⟩ | ⟨g', cap', cur, e1, hbase, hb, h1, h2, h3, h4⟩
  · cases h
  cases e1
  have hF : cur.toList.take (flatK s3v 3 zs.toArray).size = (flatK s3v 3 zs.toArray).toList := by
    rw [flat_eq, size_flatK]
    simpa using h4
  have hH : HoldsK s3v 3 w g 0 zs.toArray := holds_idblock hb hF
  have hcmp : CmpLays Tryz.prog 116 #[] s3v 3 cfS g 0 zs.toArray.size w := fun m os dk _ x y => spancmp x y _
  have h := AnyQ.slices_SortFunc_eq Tryz.sortS 3 Tryz.isAgg156 Tryz.sizeOf156 s3v (fun _ => rfl) (fun x v hv => by simp [s3v] at hv; rcases hv with rfl | rfl | rfl <;> rfl) cfS swoS 116 #[] g 0 cap zs.toArray w (enters_of Tryz.func116 (by kernel_rfl) rfl) hcmp hH (Array.getElem?_eq_some_iff.1 hb).1 (by simpa using hz)
  rw [show zs.toArray.size = zs.length from by simp] at h
  refine Calls.mono h ?_
  rintro e w' ⟨rfl, n, os, rfl⟩
  have hs : (pdq (ltOf cfS) zs.toArray 0 zs.length (Lib.bitLen zs.length) true true) = (srtS zs).toArray := by unfold srtS; simp
  rw [hs]
  refine ⟨rfl, ⟨by rw [flat_len, srtS_len], .inr ⟨g, cap, putCells id 0 (flatK s3v 3 (srtS zs).toArray) cur, rfl, hbase, ?_, h1, h2, by simp [putCells, h3], ?_⟩⟩, grownBy_idsorted _⟩
  · exact heap_idsorted _ hb
  · have hsz : (flatK s3v 3 (srtS zs).toArray).size = zs.length * 3 := by rw [size_flatK]; simp [srtS_len]
    have := take_idput cur (flatK s3v 3 (srtS zs).toArray) (by rw [hsz, h3]; exact Nat.mul_le_mul_right _ h1)
    rw [hsz, flat_eq] at this
    exact this
end Go.Proofs.YtclhjcbnpdlgbaaGreatDoor.Srt
/- span.sorted at the machine. -/
namespace Go.Proofs.YtclhjcbnpdlgbaaGreatDoor.Srt
open Go Go.RowKit Go.Shelf Go.Lib Go.Sort

theorem Spans.up {n n' : Nat} {W : World} {sv : Value} {zs : List S3} (h : Spans n W sv zs) (hn : n ≤ n') : Spans n' W sv zs := by
  rcases h with h | ⟨b, off, cap, e, hb, hc⟩
  · exact .inl h
  · exact .inr ⟨b, off, cap, e, Nat.lt_of_lt_of_le hb hn, hc⟩
theorem ownsRow_low {W : World} {base base' : Nat} {e : TypeId} {size : Nat} {v : Value} {k : Nat} {xs : List Value} (h : W.ownsRow base e size v k xs) (hb : base' ≤ base) : W.ownsRow base' e size v k xs := by
  refine ⟨h.1, ?_⟩
  rcases h.2 with hn | ⟨g, cap, cur, hv, hbg, rest⟩
  · exact .inl hn
  · exact .inr ⟨g, cap, cur, hv, Nat.le_trans hb hbg, rest⟩
theorem appendSeq_c (Bs : Nat) (sv : Value) (zs : List S3) (hreach : zs.length * 24 ≤ 140737488351232) (w : World) (hBs : Bs < w.heap.size) (hc : w.cell? ⟨Bs, 0, none⟩ = some sv) (hI : Spans w.heap.size w sv zs) :
    Calls Tryz.prog 124 #[.slice none 0 0, .func (.func 120) #[] #[.pointer (some ⟨Bs, 0, none⟩)]] w fun e W' => ∃ v, e = .returned v ∧ W'.ownsRow w.heap.size 156 3 v zs.length (zs.flatMap s3v) ∧ RowKit.Below w.heap.size w W' :=
  callsIn_wide.1 (appendSeq_in Fence.wide 5 trivial trivial rfl (by omega) Bs sv zs (by simp only [maxLen]; omega) (by omega) hreach w hBs hc hI)
set_option maxRecDepth 100000 in
set_option maxHeartbeats 2000000 in
theorem collect_c (Bs : Nat) (sv : Value) (zs : List S3) (hreach : zs.length * 24 ≤ 140737488351232) (w : World) (hBs : Bs < w.heap.size) (hc : w.cell? ⟨Bs, 0, none⟩ = some sv) (hI : Spans w.heap.size w sv zs) :
    Calls Tryz.prog 118 #[.func (.func 120) #[] #[.pointer (some ⟨Bs, 0, none⟩)]] w fun e W' => ∃ v, e = .returned v ∧ W'.ownsRow w.heap.size 156 3 v zs.length (zs.flatMap s3v) ∧ RowKit.Below w.heap.size w W' := by
  have e78 : ∀ args w, (callFunc 124 args).run Tryz.prog w = .ok (.enter 124 args) w := enters_of Tryz.func124 (by kernel_rfl) rfl
  have happ := appendSeq_c Bs sv zs hreach w hBs hc hI
  clear hBs hc hI hreach
  go_enter Tryz.func118, Tryz.ntmps118
  go_wp2_with (go_at_fn 124; refine happ.mono ?_; rintro e w' ⟨v, rfl, h1, h2⟩)
  go_ret
  exact ⟨v, rfl, h1, h2⟩
theorem srtS_nil : srtS [] = [] := List.eq_nil_of_length_eq_zero (srtS_len [])
theorem sortAny (zs : List S3) (base : Nat) (v : Value) (w : World) (hbw : base ≤ w.heap.size) (hz : zs.length < 4611686018427387904) (hown : w.ownsRow base 156 3 v zs.length (zs.flatMap s3v)) :
    Calls Tryz.prog 119 #[v, .func (.func 116) #[] #[]] w fun e w' => e = .returned (.tuple #[]) ∧ w'.ownsRow base 156 3 v zs.length ((srtS zs).flatMap s3v) ∧ RowKit.Below base w w' := by
  rcases hown.2 with ⟨rfl, h0⟩ | ⟨g, cap, cur, rfl, hbase, hb, _⟩
  · obtain rfl : zs = [] := List.eq_nil_of_length_eq_zero h0
    refine Calls.mono (AnyF.slices_SortFunc_none Tryz.sortS none 0 (.func (.func 116) #[] #[]) w) ?_
    rintro e w' ⟨rfl, rfl⟩
    rw [srtS_nil]
    exact ⟨rfl, hown, RowKit.Below.refl _ _⟩
  · refine (sortFunc_call zs g cap base w hz hown).mono ?_
    rintro e w' ⟨rfl, h1, h2⟩
    exact ⟨rfl, h1, (RowKit.Below.refl base w).grown h2 hbw fun k e => by cases e; exact hbase⟩
set_option maxRecDepth 100000 in
set_option maxHeartbeats 2000000 in
theorem sortedFunc_c (Bs : Nat) (sv : Value) (zs : List S3) (hreach : zs.length * 24 ≤ 140737488351232) (w : World) (hBs : Bs < w.heap.size) (hc : w.cell? ⟨Bs, 0, none⟩ = some sv) (hI : Spans w.heap.size w sv zs) :
    Calls Tryz.prog 114 #[.func (.func 120) #[] #[.pointer (some ⟨Bs, 0, none⟩)], .func (.func 116) #[] #[]] w fun e W' => ∃ v, e = .returned v ∧ W'.ownsRow w.heap.size 156 3 v zs.length ((srtS zs).flatMap s3v) ∧ RowKit.Below w.heap.size w W' := by
  have e71 : ∀ args w, (callFunc 118 args).run Tryz.prog w = .ok (.enter 118 args) w := enters_of Tryz.func118 (by kernel_rfl) rfl
  have e72 : ∀ args w, (callFunc 119 args).run Tryz.prog w = .ok (.enter 119 args) w := enters_of Tryz.func119 (by kernel_rfl) rfl
  have hcol := collect_c Bs sv zs hreach w hBs hc hI
  clear hBs hc hI
  go_enter Tryz.func114, Tryz.ntmps114
  go_wp2_with (go_at_fn 118; refine hcol.mono ?_; rintro e w1 ⟨v, rfl, h1, h2⟩)
  refine (sortAny zs w.heap.size v w1 h2.size (by omega) h1).mono ?_
  rintro e w2 ⟨rfl, h3, h4⟩
  go_wp2
  go_ret
  exact ⟨v, rfl, h3, h2.trans h4⟩
set_option maxRecDepth 100000 in
set_option maxHeartbeats 2000000 in
theorem sorted_c (a : Option Addr) (len cap : Nat) (zs : List S3) (hreach : zs.length * 24 ≤ 140737488351232) (w : World) (hI : Spans w.heap.size w (.slice a len cap) zs) :
    Calls Tryz.prog 111 #[.slice a len cap] w fun e W' => ∃ v, e = .returned v ∧ W'.ownsRow w.heap.size 156 3 v zs.length ((srtS zs).flatMap s3v) ∧ RowKit.Below w.heap.size w W' := by
  have e66 : ∀ args w, (callFunc 115 args).run Tryz.prog w = .ok (.enter 115 args) w := enters_of Tryz.func115 (by kernel_rfl) rfl
  have e65 : ∀ args w, (callFunc 114 args).run Tryz.prog w = .ok (.enter 114 args) w := enters_of Tryz.func114 (by kernel_rfl) rfl
  have hval : Calls Tryz.prog 115 #[.slice a len cap] w fun e w' => e = .returned (.func (.func 120) #[] #[.pointer (some ⟨w.heap.size, 0, none⟩)]) ∧ w' = w.alloc (.cells #[.slice a len cap] 77) :=
    callsIn_wide.1 (values_in Fence.wide 5 trivial rfl a len cap w)
  have hB0 : RowKit.Below w.heap.size w (w.alloc (.cells #[.slice a len cap] 77)) := (RowKit.Below.refl _ w).alloc (Nat.le_refl _) _
  have hB1 : RowKit.Below (w.alloc (.cells #[.slice a len cap] 77)).heap.size (w.alloc (.cells #[.slice a len cap] 77)) (w.alloc (.cells #[.slice a len cap] 77)) := RowKit.Below.refl _ _
  have hI1 : Spans (w.alloc (.cells #[.slice a len cap] 77)).heap.size (w.alloc (.cells #[.slice a len cap] 77)) (.slice a len cap) zs := (hI.below hB0).up (by simp)
  have hsrt := sortedFunc_c w.heap.size (.slice a len cap) zs hreach (w.alloc (.cells #[.slice a len cap] 77)) (by simp) (by simp [World.cell?_alloc_new]) hI1
  clear hI hI1 hB1
  go_enter Tryz.func111, Tryz.ntmps111
  go_wp2_with (first
    | (go_at_fn 115; refine hval.mono ?_; rintro e w1 ⟨rfl, rfl⟩)
    | (go_at_fn 114; refine hsrt.mono ?_; rintro e w1 ⟨v, rfl, h1, h2⟩))
  go_ret
  exact ⟨v, rfl, ownsRow_low h1 (by simp), hB0.trans (h2.mono (by simp))⟩
end Go.Proofs.YtclhjcbnpdlgbaaGreatDoor.Srt
/- span.sorted, as a contract of the ideal states. -/
namespace Go.Proofs.YtclhjcbnpdlgbaaGreatDoor.Srt
open Go Go.Lift

def sp3 (a : S3) : List IV := [.v (.int .u16 a.1), .v (.int .u32 a.2.1), .v (.int .i64 a.2.2)]
theorem sp3_length (a : S3) : (sp3 a).length = 3 := rfl
theorem trl_s3 (R : Nat → Prop) (w : World) : ∀ zs : List S3, TRl R w (encs sp3 zs) (zs.flatMap s3v)
  | [] => by unfold TRl encs; rfl
  | x :: zs => by
    rw [encs_cons, List.flatMap_cons]
    refine TRl.append ?_ (trl_s3 R w zs)
    unfold sp3 s3v
    have one : ∀ v : Value, v.oneCell' = true → TR R w (.v v) v ∧ v.oneCell' = true := fun v h => ⟨by unfold TR; rfl, h⟩
    unfold TRl
    refine ⟨_, _, rfl, one _ rfl, ?_⟩
    unfold TRl
    refine ⟨_, _, rfl, one _ rfl, ?_⟩
    unfold TRl
    refine ⟨_, _, rfl, one _ rfl, ?_⟩
    unfold TRl
    rfl
theorem sorted_call (zs : List S3) (hreach : zs.length * 24 ≤ 140737488351232) : SCall Tryz.prog 111 [.tr zs.length (encs sp3 zs)] (.own 156 zs.length true (encs sp3 (srtS zs))) [.tr zs.length (encs sp3 zs)] := by
  obtain ⟨i0, hi, hz0, hz1, hz2⟩ := info_parts infoS3
  refine SCall.of_row rfl ⟨i0, hi, hz1, by decide⟩ (fun _ x hx => ?_) fun w R vals hB hlt => ?_
  · have : (encs sp3 (srtS zs)).all isV = true := encs_all (fun a => rfl) _
    exact all_isV this x hx
  · unfold BRl BRl at hB
    obtain ⟨y, ys, o1, o2, rfl, h1, ⟨rfl, rfl⟩, e1⟩ := hB
    unfold BR at h1
    obtain ⟨h1, _⟩ := h1
    unfold TR at h1
    obtain ⟨a, c, rfl, hc, h1⟩ := h1
    have hI : Spans w.heap.size w (.slice a zs.length c) zs := by
      rcases h1 with h1 | ⟨b, o, rfl, hR, hm⟩
      · have h0 : zs = [] := by
          cases zs with
          | nil => rfl
          | cons x zs => rw [encs_cons] at h1; simp [sp3] at h1
        subst h0
        exact .inl ⟨a, c, rfl, rfl⟩
      · refine .inr ⟨b, o, c, rfl, hlt b hR, fun j x hx => ?_⟩
        have g : ∀ i (v : Value), i < 3 → (sp3 x)[i]? = some (.v v) → w.cell? ⟨b, o + (j * 3 + i), none⟩ = some v := fun i v hi hv => by
          obtain ⟨y, y1, y2, _⟩ := TRm.get hm (j * 3 + i) (.v v) (by rw [encs_get sp3_length hx hi]; exact hv)
          unfold TR at y2
          rw [y1, y2]
        refine ⟨?_, ?_, ?_⟩
        · have := g 0 _ (by decide) rfl
          simpa using this
        · have := g 1 _ (by decide) rfl
          rwa [← Nat.add_assoc] at this
        · have := g 2 _ (by decide) rfl
          rwa [← Nat.add_assoc] at this
    refine (sorted_c a zs.length c zs hreach w hI).mono ?_
    rintro e w' ⟨v, rfl, g1, g2⟩
    exact ⟨v, _, rfl, g1, trl_s3 R w' _, g2⟩
end Go.Proofs.YtclhjcbnpdlgbaaGreatDoor.Srt
namespace Go.Proofs.YtclhjcbnpdlgbaaGreatDoor.Srt
open Go Go.Lift Go.Sort
theorem srtS_perm (zs : List S3) : (srtS zs).Perm zs := by
  have h := (pdq_sorts (ltOf cfS) swoS zs.toArray 0 zs.toArray.size (Lib.bitLen zs.toArray.size) true true (Nat.zero_le _) (Nat.le_refl _) (Or.inl rfl)).1
  have h2 := h.2.2
  unfold srtS
  generalize pdq (ltOf cfS) zs.toArray 0 zs.toArray.size (Lib.bitLen zs.toArray.size) true true = d at *
  have hs : d.size = zs.toArray.size := h.1
  have e1 : d.extract 0 zs.toArray.size = d := by rw [← hs]; simp
  have e2 : zs.toArray.extract 0 zs.toArray.size = zs.toArray := by simp
  rw [e1, e2] at h2
  simpa using h2
theorem srtS_sorted (zs : List S3) : (srtS zs).Pairwise fun x y => x.1 < y.1 ∨ (x.1 = y.1 ∧ x.2.1 ≤ y.2.1) := by
  have h := (pdq_sorts (ltOf cfS) swoS zs.toArray 0 zs.toArray.size (Lib.bitLen zs.toArray.size) true true (Nat.zero_le _) (Nat.le_refl _) (Or.inl rfl))
  have h1 := h.1.1
  have h2 := h.2
  unfold srtS
  generalize pdq (ltOf cfS) zs.toArray 0 zs.toArray.size (Lib.bitLen zs.toArray.size) true true = d at *
  rw [List.pairwise_iff_getElem]
  intro i j hi hj hij
  simp only [Array.length_toList] at hi hj
  have := h2 i j (Nat.zero_le _) hij (by omega)
  rw [getElem!_pos d i hi, getElem!_pos d j hj, cfS_lt] at this
  simp only [Array.getElem_toList]
  simp only [decide_eq_false_iff_not] at this
  omega
end Go.Proofs.YtclhjcbnpdlgbaaGreatDoor.Srt
/- Spans: the code's Apart. -/
namespace Go.Proofs.YtclhjcbnpdlgbaaGreatDoor
open Go Go.Lift
set_option maxHeartbeats 4000000
set_option linter.unusedSimpArgs false
set_option linter.unusedVariables false
attribute [local irreducible] WK IL IP IG IW DW

def Asc (l : List Sp) : Prop := l.Pairwise fun x y => x.1 < y.1 ∨ (x.1 = y.1 ∧ x.2.1 ≤ y.2.1)
def runsOn (a b : Sp) : Prop := a.1 = b.1 ∧ b.2.1 ≤ a.2.1 + (a.2.2 - 1)
instance (a b : Sp) : Decidable (runsOn a b) := by unfold runsOn; infer_instance
def adjOk (l : List Sp) : Prop := ∀ i (h : i + 1 < l.length), ¬ runsOn l[i] l[i + 1]
theorem meet_symm {a b : Sp} (h : meetI a b) : meetI b a := by unfold meetI at *; omega
theorem apart_pw (l : List Sp) : apartI l ↔ l.Pairwise fun a b => ¬ meetI a b := by
  rw [List.pairwise_iff_getElem]
  constructor
  · intro h i j hi hj hij hm
    exact h j hj i hij (meet_symm hm)
  · intro h i hi k hk hm
    exact h k i (by omega) hi hk (meet_symm hm)
theorem apart_perm {l m : List Sp} (h : l.Perm m) : apartI l ↔ apartI m := by
  rw [apart_pw, apart_pw]
  exact h.pairwise_iff fun {a b} hab hba => hab (meet_symm hba)
theorem adj_apart {l : List Sp} (hs : Asc l) (hr : ∀ s ∈ l, rightI s) : adjOk l ↔ apartI l := by
  rw [apart_pw, List.pairwise_iff_getElem]
  unfold Asc at hs
  rw [List.pairwise_iff_getElem] at hs
  constructor
  · intro h
    have key : ∀ (d i : Nat) (hi : i < l.length) (hj : i + d + 1 < l.length), l[i].1 = l[i + d + 1].1 → l[i].2.1 + l[i].2.2 ≤ l[i + d + 1].2.1 := by
      intro d
      induction d with
      | zero =>
        intro i hi hj he
        have := h i hj
        unfold runsOn at this
        simp only [Nat.add_zero] at he ⊢
        omega
      | succ d ih =>
        intro i hi hj he
        have h1 := hs i (i + d + 1) hi (by omega) (by omega)
        have h2 := hs (i + d + 1) (i + (d + 1) + 1) (by omega) hj (by omega)
        have h3 := ih i hi (by omega) (by omega)
        omega
    intro i j hi hj hij hm
    obtain ⟨d, rfl⟩ : ∃ d, j = i + d + 1 := ⟨j - i - 1, by omega⟩
    unfold meetI at hm
    have := key d i hi hj hm.1
    omega
  · intro h i hi hrun
    have h1 := h i (i + 1) (by omega) hi (by omega)
    have h2 := hs i (i + 1) (by omega) hi (by omega)
    have h3 := hr _ (List.getElem_mem hi)
    unfold runsOn at hrun
    unfold rightI at h3
    unfold meetI at h1
    omega
open Classical in
theorem spApart_call (l : List Sp) (hl : l.length ≤ 100000) (hr : ∀ s ∈ l, rightI s) : SCall Tryz.prog 105 [.tr l.length (encs spC l)] (.v (.bool (decide (apartI l)))) [.tr l.length (encs spC l)] := by
  have hso := SCall.frz (show SCall Tryz.prog 111 [.tr l.length (encs spC l)] (.own 156 l.length true (encs spC (Srt.srtS l))) [.tr l.length (encs spC l)] from Srt.sorted_call l (by omega)) rfl
  simp only [frzR] at hso
  have hpm := Srt.srtS_perm l
  have has : Asc (Srt.srtS l) := Srt.srtS_sorted l
  have hln := Srt.srtS_len l
  have hrz : ∀ s ∈ Srt.srtS l, rightI s := fun s hs => hr s (hpm.mem_iff.1 hs)
  have hap : apartI l ↔ adjOk (Srt.srtS l) := (apart_perm hpm.symm).trans (adj_apart has hrz).symm
  rw [show decide (apartI l) = decide (adjOk (Srt.srtS l)) from decide_eq_decide.2 hap]
  clear hap has hpm
  generalize Srt.srtS l = z at *
  refine SCall.of_body' (TT := TT) (fun _ => false) [false] ttok Tryz.func105 rfl (Nat.le_of_ble_eq_true rfl) rfl fun fx hfx => WK.top ?_
  simp only [impl, imp, argT, List.append_nil, List.map_nil, List.nil_append, show Tryz.f105.ntmps = 43 from rfl, Nat.zero_add, Nat.reduceAdd]
  repeat' (first | refine WK.seq ?_ | refine WK.reg ?_ | refine IL.nil ?_ | refine WK.skip ?_ | refine WK.block ?_ | refine WK.exit_here ?_ | refine WK.e1 ?_ | refine WK.e2 ?_ | refine WK.drawnS (id := 5) mixed [] [20] [0, 0, 0, 0, 0, 0, 0, 0, 0, 0, 0, 0, 0, 0, 0, 0, 0, 0, 0, 0, 0, 1, 0, 0, 0, 0, 0, 0, 1, 1] [0, 0, 0, 0, 0, 0, 0, 0, 0, 0, 0, 0, 0, 0, 0, 0, 0, 0, 0, 0, 0, 1, 1, 1, 1, 1, 1, 1, 1, 1] (by decide +kernel) ?_ | refine DW.nil ?_ | (with_reducible refine IL.wr ?_ ?_; focus exact cW) | (with_reducible refine DW.wr ?_ ?_; focus exact cW) | refine IL.sg ttok ?_ | refine DW.re ttok ?_ | refine DW.rm ttok ?_ | refine DW.nn ?_ | refine DW.nb ?_ | refine IL.cS ttok ent111 [.bor] false ?_ (hS := by exact hso) | refine DW.cS ttok ent112 [.bor] true ?_ (hS := by exact hla) | ((first | ((first | refine DW.ag (fun h => ?_) (fun h => ?_) | refine DW.ap (fun h => ?_) (fun h => ?_)); (fail_if_success (focus (simp only [reduceCtorEq] at h)))) | refine WK.cn (fun h => ?_) (fun h => ?_)); all_goals first | (simp only [reduceCtorEq] at h; done) | (simp only [hsA, hsD, hsE, ne_eq] at h; first | done | (exfalso; omega; done) | skip) | skip))
  refine WK.forS (l.length - 1) (fun k => ∀ i (h : i + 1 < z.length), i < k → ¬ runsOn z[i] z[i + 1]) (fun k => ⟨43, [(3, .tr l.length (encs spC z)), (4, .v (.int .i64 ((k : Int) + 1)))], []⟩) ⟨fun i h h' => by omega, ?_⟩ (fun k hk ho => ?_) (fun ho => ?_)
  · rw [show ((0 : Nat) : Int) + 1 = 1 from rfl]
    (refine Weak.renS [] hfx rfl ?_ ?_ rfl <;> (simp only [go_sem, reduceIte, exists_eq_left', exists_eq_left, Blk.mk.injEq] <;> (try and_intros) <;> first | rfl | omega))
  · have h1 : k < z.length := by omega
    have h2 : k + 1 < z.length := by omega
    have hx : z[k]? = some z[k] := List.getElem?_eq_getElem h1
    have hy : z[k + 1]? = some z[k + 1] := List.getElem?_eq_getElem h2
    have a1 : (encs spC z)[k * 3 + 0]? = some (.v (.int .u16 z[k].1)) := encs_get spC_length hx (by decide)
    rw [Nat.add_zero] at a1
    have a2 : ((encs spC z).drop (k * 3)).take 3 = [.v (.int .u16 z[k].1), .v (.int .u32 z[k].2.1), .v (.int .i64 z[k].2.2)] := encs_at spC_length hx
    have a3 : (encs spC z)[(k + 1) * 3 + 0]? = some (.v (.int .u16 z[k + 1].1)) := encs_get spC_length hy (by decide)
    rw [Nat.add_zero] at a3
    have a4 : (encs spC z)[(k + 1) * 3 + 1]? = some (.v (.int .u32 z[k + 1].2.1)) := encs_get spC_length hy (by decide)
    have hle : (k + 1) * 3 + 3 ≤ l.length * 3 := by omega
    have hle2 : k * 3 + 3 ≤ l.length * 3 := by omega
    have hle3 : k * 3 + 3 ≤ z.length * 3 := by omega
    have hne : encs spC z ≠ [] := encs_ne spC_length (by decide) hx
    have hla := spLast_call z[k].1 z[k].2.1 z[k].2.2 (hrz _ (List.getElem_mem h1))
    have hri := hrz _ (List.getElem_mem h1)
    have hno : runsOn z[k] z[k + 1] → decide (adjOk z) = false := fun h => decide_eq_false fun hz => hz k h2 h
    have hyes : ¬ runsOn z[k] z[k + 1] → ∀ i (h : i + 1 < z.length), i < k + 1 → ¬ runsOn z[i] z[i + 1] := fun h i hi hik => by
      rcases Nat.lt_or_ge i k with h' | h'
      · exact ho i hi h'
      · obtain rfl : i = k := by omega
        exact h
    have hk1 : ((k : Int) + 1).toNat = k + 1 := by omega
    have hk2 : ((k : Int) + 1 - 1).toNat = k := by omega
    clear hx hy ho
    unfold rightI at hri
    generalize z[k] = x at *
    generalize z[k + 1] = y at *
    have FX := And.intro a1 (And.intro a2 (And.intro a3 (And.intro a4 (And.intro hle (And.intro hle2 (And.intro hle3 (And.intro hk1 hk2)))))))
    repeat' (first | refine WK.seq ?_ | refine WK.reg ?_ | refine IL.nil ?_ | refine WK.skip ?_ | refine WK.block ?_ | refine WK.exit_here ?_ | refine WK.e1 ?_ | refine WK.e2 ?_ | refine WK.drawnS (id := 5) mixed [] [20] [0, 0, 0, 0, 0, 0, 0, 0, 0, 0, 0, 0, 0, 0, 0, 0, 0, 0, 0, 0, 0, 1, 0, 0, 0, 0, 0, 0, 1, 1] [0, 0, 0, 0, 0, 0, 0, 0, 0, 0, 0, 0, 0, 0, 0, 0, 0, 0, 0, 0, 0, 1, 1, 1, 1, 1, 1, 1, 1, 1] (by decide +kernel) ?_ | refine DW.nil ?_ | (with_reducible refine IL.wr ?_ ?_; focus exact cW) | (with_reducible refine DW.wr ?_ ?_; focus exact cW) | refine IL.sgF ttok ?_ | refine DW.reF ttok ?_ | refine DW.rmF ttok ?_ | refine DW.nn ?_ | refine DW.nb ?_ | refine IL.cSF ttok ent111 [.bor] false ?_ (hS := by exact hso) | refine DW.cSF ttok ent112 [.bor] true ?_ (hS := by exact hla) | ((first | ((first | refine DW.ag (fun h => ?_) (fun h => ?_) | refine DW.ap (fun h => ?_) (fun h => ?_)); (fail_if_success (focus (simp only [reduceCtorEq] at h)))) | refine WK.cn (fun h => ?_) (fun h => ?_)); all_goals first | (simp only [reduceCtorEq] at h; done) | (simp only [hsA, hsD, hsE, ne_eq] at h; first | done | (exfalso; omega; done) | skip) | skip))
    · rw [hno ⟨by omega, by omega⟩]
      all_goals try ((first | refine WK.ret ⟨.inr rfl, ?_⟩ | refine ⟨.inl rfl, ?_⟩ | refine ⟨.inl trivial, ?_⟩); refine Fin.o ?_ ?_ (h1 := by first | rfl | (simp only [go_sem, show Tryz.f105.results.toList = [.tmp 2] from rfl, reduceIte] <;> rfl)); rotate_left 1; (focus (first | rfl | skip)); all_goals try with_reducible rfl)
      all_goals skip
    · refine ⟨hyes fun hh => by unfold runsOn at hh; omega, ?_⟩
      (refine Weak.renS [] hfx rfl ?_ ?_ rfl <;> (simp only [go_sem, reduceIte, exists_eq_left', exists_eq_left, Blk.mk.injEq] <;> (try and_intros) <;> first | rfl | omega))
    · refine ⟨hyes fun hh => by unfold runsOn at hh; omega, ?_⟩
      (refine Weak.renS [] hfx rfl ?_ ?_ rfl <;> (simp only [go_sem, reduceIte, exists_eq_left', exists_eq_left, Blk.mk.injEq] <;> (try and_intros) <;> first | rfl | omega))
  · have hz : decide (adjOk z) = true := decide_eq_true fun i hi => ho i hi (by omega)
    rw [hz]
    repeat' (first | refine WK.seq ?_ | refine WK.reg ?_ | refine IL.nil ?_ | refine WK.skip ?_ | refine WK.block ?_ | refine WK.exit_here ?_ | refine WK.e1 ?_ | refine WK.e2 ?_ | refine WK.drawnS (id := 5) mixed [] [20] [0, 0, 0, 0, 0, 0, 0, 0, 0, 0, 0, 0, 0, 0, 0, 0, 0, 0, 0, 0, 0, 1, 0, 0, 0, 0, 0, 0, 1, 1] [0, 0, 0, 0, 0, 0, 0, 0, 0, 0, 0, 0, 0, 0, 0, 0, 0, 0, 0, 0, 0, 1, 1, 1, 1, 1, 1, 1, 1, 1] (by decide +kernel) ?_ | refine DW.nil ?_ | (with_reducible refine IL.wr ?_ ?_; focus exact cW) | (with_reducible refine DW.wr ?_ ?_; focus exact cW) | refine IL.sg ttok ?_ | refine DW.re ttok ?_ | refine DW.rm ttok ?_ | refine DW.nn ?_ | refine DW.nb ?_ | refine IL.cS ttok ent111 [.bor] false ?_ (hS := by exact hso) | refine DW.cS ttok ent112 [.bor] true ?_ (hS := by exact hla) | ((first | ((first | refine DW.ag (fun h => ?_) (fun h => ?_) | refine DW.ap (fun h => ?_) (fun h => ?_)); (fail_if_success (focus (simp only [reduceCtorEq] at h)))) | refine WK.cn (fun h => ?_) (fun h => ?_)); all_goals first | (simp only [reduceCtorEq] at h; done) | (simp only [hsA, hsD, hsE, ne_eq] at h; first | done | (exfalso; omega; done) | skip) | skip))
    all_goals try ((first | refine WK.ret ⟨.inr rfl, ?_⟩ | refine ⟨.inl rfl, ?_⟩ | refine ⟨.inl trivial, ?_⟩); refine Fin.o ?_ ?_ (h1 := by first | rfl | (simp only [go_sem, show Tryz.f105.results.toList = [.tmp 2] from rfl, reduceIte] <;> rfl)); rotate_left 1; (focus (first | rfl | skip)); all_goals try with_reducible rfl)
    all_goals skip
end Go.Proofs.YtclhjcbnpdlgbaaGreatDoor
/- Spans: the code's Fit. -/
namespace Go.Proofs.YtclhjcbnpdlgbaaGreatDoor
open Go Go.Lift
set_option maxHeartbeats 4000000
set_option linter.unusedSimpArgs false
set_option linter.unusedVariables false
attribute [local irreducible] WK IL IP IG IW DW

theorem spFit_call (l : List Sp) (nn : Nat) (hnn : nn = l.length) (hl : l.length ≤ 1024) (hb : ∀ s ∈ l, (0 ≤ s.2.1 ∧ s.2.1 ≤ 4294967295) ∧ (-9223372036854775808 ≤ s.2.2 ∧ s.2.2 ≤ 9223372036854775807)) : SCall Tryz.prog 92 [.tr nn (encs spC l)] (.v (.int .i64 (fit7 l))) [.tr nn (encs spC l)] := by
  subst hnn
  by_cases hnil : l = []
  · subst hnil
    have e : fit7 [] = 11 := by simp [fit7]
    rw [e]
    refine SCall.of_body' (TT := TT) (fun _ => false) [false] ttok Tryz.func92 rfl (Nat.le_of_ble_eq_true rfl) rfl fun fx hfx => WK.top ?_
    simp only [impl, imp, argT, List.append_nil, List.map_nil, List.nil_append, show Tryz.f92.ntmps = 31 from rfl, Nat.zero_add, Nat.reduceAdd]
    repeat' (first | refine WK.seq ?_ | refine WK.reg ?_ | refine IL.nil ?_ | refine WK.skip ?_ | refine WK.block ?_ | refine WK.exit_here ?_ | refine WK.e1 ?_ | refine WK.e2 ?_ | (with_reducible refine IL.wr ?_ ?_; focus exact cW) | refine IL.sg ttok ?_ (h := by intro K hK; simp only [go_sem, reduceIte, List.length_nil]; exact cK hK) | refine IL.cS ttok ent104 [.bor] true ?_ (hA := by first | rfl | (simp only [go_sem, reduceIte, List.length_nil] <;> rfl)) (hS := by exact hsr) (hi := by first | rfl | (simp only [go_sem, reduceIte, List.length_nil] <;> rfl)) (hK := by intro K hK; simp only [go_sem, reduceIte, List.length_nil]; exact cK hK) | refine IL.cS ttok ent105 [.bor] true ?_ (hA := by first | rfl | (simp only [go_sem, reduceIte, List.length_nil] <;> rfl)) (hS := by exact hap) (hi := by first | rfl | (simp only [go_sem, reduceIte, List.length_nil] <;> rfl)) (hK := by intro K hK; simp only [go_sem, reduceIte, List.length_nil]; exact cK hK) | (refine WK.cn (fun h => ?_) (fun h => ?_); all_goals first | (simp only [reduceCtorEq] at h; done) | (simp only [hsA, hsD, hsE, ne_eq] at h; first | done | (exfalso; omega; done) | skip) | skip))
    all_goals try ((first | refine WK.ret ⟨.inr rfl, ?_⟩ | refine ⟨.inl rfl, ?_⟩ | refine ⟨.inl trivial, ?_⟩); refine Fin.o ?_ ?_ (h1 := by first | rfl | (simp only [go_sem, show Tryz.f92.results.toList = [.tmp 2] from rfl, reduceIte] <;> rfl)); rotate_left 1; (focus (first | rfl | skip)); all_goals try with_reducible rfl)
  · have hpos : 0 < l.length := List.length_pos_iff.2 hnil
    refine SCall.of_body' (TT := TT) (fun _ => false) [false] ttok Tryz.func92 rfl (Nat.le_of_ble_eq_true rfl) rfl fun fx hfx => WK.top ?_
    simp only [impl, imp, argT, List.append_nil, List.map_nil, List.nil_append, show Tryz.f92.ntmps = 31 from rfl, Nat.zero_add, Nat.reduceAdd]
    repeat' (first | refine WK.seq ?_ | refine WK.reg ?_ | refine IL.nil ?_ | refine WK.skip ?_ | refine WK.block ?_ | refine WK.exit_here ?_ | refine WK.e1 ?_ | refine WK.e2 ?_ | (with_reducible refine IL.wr ?_ ?_; focus exact cW) | refine IL.sg ttok ?_ | refine IL.cS ttok ent104 [.bor] true ?_ (hS := by exact hsr) | refine IL.cS ttok ent105 [.bor] true ?_ (hS := by exact hap) | (refine WK.cn (fun h => ?_) (fun h => ?_); all_goals first | (simp only [reduceCtorEq] at h; done) | (simp only [hsA, hsD, hsE, ne_eq] at h; first | done | (exfalso; omega; done) | skip) | skip))
    generalize hG : fit7Go l 0 = G
    have hfit : ¬ G = 0 → fit7 l = G := fun h => by unfold fit7; rw [if_neg hnil, if_neg (by rw [hG]; exact h), hG]
    have hfit0 : G = 0 → (apartI l → fit7 l = 0) ∧ (¬ apartI l → fit7 l = 16) := fun h => by
      unfold fit7; rw [if_neg hnil, if_pos (by rw [hG]; exact h)]
      exact ⟨fun h => if_pos h, fun h => if_neg h⟩
    refine WK.whileS (α := Nat × Int) (fun x => l.length - x.1) (fun x => x.1 ≤ l.length ∧ 0 ≤ x.2 ∧ x.2 ≤ 1024 ∧ fit7Go (l.drop x.1) x.2 = G)
      (fun x => ⟨31, [(0, .tr l.length (encs spC l)), (3, .v (.int .i64 x.2)), (12, .tr l.length (encs spC l)), (13, .v (.int .i64 l.length)), (14, .v (.int .i64 (x.1 : Int)))], []⟩) (0, 0) ⟨⟨Nat.zero_le _, by decide, by decide, by simpa using hG⟩, ?_⟩ ?_
    · (refine Weak.cut' rfl rfl ?_; exact cA)
    · rintro ⟨i, n⟩ ⟨hi, hn0, hn1, hg⟩
      simp only at hi hn0 hn1 hg ⊢
      rcases Nat.eq_or_lt_of_le hi with rfl | hi
      · rw [List.drop_length, fit7Go] at hg
        have hok := fit7Go_ok l 0 (by decide) (by rw [hG]; exact hg.symm)
        obtain ⟨w1, w2⟩ := hfit0 hg.symm
        have hokr := hok.1
        have hap := spApart_call l (by omega) hokr
        repeat' (first | refine WK.seq ?_ | refine WK.reg ?_ | refine IL.nil ?_ | refine WK.skip ?_ | refine WK.block ?_ | refine WK.exit_here ?_ | refine WK.e1 ?_ | refine WK.e2 ?_ | (with_reducible refine IL.wr ?_ ?_; focus exact cW) | refine IL.sg ttok ?_ | refine IL.cS ttok ent104 [.bor] true ?_ (hS := by exact hsr) | refine IL.cS ttok ent105 [.bor] true ?_ (hS := by exact hap) | (refine WK.cn (fun h => ?_) (fun h => ?_); all_goals first | (simp only [reduceCtorEq] at h; done) | (simp only [hsA, hsD, hsE, ne_eq] at h; first | done | (exfalso; omega; done) | skip) | skip))
        all_goals try ((first | refine WK.ret ⟨.inr rfl, ?_⟩ | refine ⟨.inl rfl, ?_⟩ | refine ⟨.inl trivial, ?_⟩); refine Fin.o ?_ ?_ (h1 := by first | rfl | (simp only [go_sem, show Tryz.f92.results.toList = [.tmp 2] from rfl, reduceIte] <;> rfl)); rotate_left 1; (focus (first | rfl | skip)); all_goals try with_reducible rfl)
        all_goals first | rw [w1 (by assumption)] | rw [w2 (by assumption)]
      · have hx : l[i]? = some l[i] := List.getElem?_eq_getElem hi
        rw [List.drop_eq_getElem_cons hi, fit7Go] at hg
        have hbs := hb _ (List.getElem_mem hi)
        generalize l[i] = s at *
        obtain ⟨r, m, c⟩ := s
        have hsr := spRight_call r m c hbs.1 hbs.2
        have hle : i * 3 + 3 ≤ l.length * 3 := by omega
        have hat : ((encs spC l).drop (i * 3)).take 3 = [.v (.int .u16 r), .v (.int .u32 m), .v (.int .i64 c)] := encs_at spC_length hx
        have hg2 : (encs spC l)[i * 3 + 2]? = some (.v (.int .i64 c)) := encs_get spC_length hx (j := 2) (by decide)
        have hne : encs spC l ≠ [] := encs_ne spC_length (by decide) hx
        by_cases hri : rightI (r, m, c)
        · rw [if_pos hri] at hg
          simp only at hg
          have hri' := hri
          unfold rightI at hri'
          simp only at hri'
          have hd : decide (rightI (r, m, c)) = true := decide_eq_true hri
          by_cases hbig : 1024 < n + c
          · rw [if_pos hbig] at hg
            subst hg
            rw [hfit (by decide)]
            have FX := And.intro hat (And.intro hle (And.intro hg2 hd))
            repeat' (first | refine WK.seq ?_ | refine WK.reg ?_ | refine IL.nil ?_ | refine WK.skip ?_ | refine WK.block ?_ | refine WK.exit_here ?_ | refine WK.e1 ?_ | refine WK.e2 ?_ | (with_reducible refine IL.wr ?_ ?_; focus exact cW) | refine IL.sgF ttok ?_ | refine IL.cSF ttok ent104 [.bor] true ?_ (hS := by exact hsr) | refine IL.cSF ttok ent105 [.bor] true ?_ (hS := by exact hap) | (refine WK.cn (fun h => ?_) (fun h => ?_); all_goals first | (simp only [reduceCtorEq] at h; done) | (simp only [hsA, hsD, hsE, ne_eq] at h; first | done | (exfalso; omega; done) | skip) | skip))
            all_goals try ((first | refine WK.ret ⟨.inr rfl, ?_⟩ | refine ⟨.inl rfl, ?_⟩ | refine ⟨.inl trivial, ?_⟩); refine Fin.o ?_ ?_ (h1 := by first | rfl | (simp only [go_sem, show Tryz.f92.results.toList = [.tmp 2] from rfl, reduceIte] <;> rfl)); rotate_left 1; (focus (first | rfl | skip)); all_goals try with_reducible rfl)
          · rw [if_neg hbig] at hg
            have FX := And.intro hat (And.intro hle (And.intro hg2 hd))
            repeat' (first | refine WK.seq ?_ | refine WK.reg ?_ | refine IL.nil ?_ | refine WK.skip ?_ | refine WK.block ?_ | refine WK.exit_here ?_ | refine WK.e1 ?_ | refine WK.e2 ?_ | (with_reducible refine IL.wr ?_ ?_; focus exact cW) | refine IL.sgF ttok ?_ | refine IL.cSF ttok ent104 [.bor] true ?_ (hS := by exact hsr) | refine IL.cSF ttok ent105 [.bor] true ?_ (hS := by exact hap) | (refine WK.cn (fun h => ?_) (fun h => ?_); all_goals first | (simp only [reduceCtorEq] at h; done) | (simp only [hsA, hsD, hsE, ne_eq] at h; first | done | (exfalso; omega; done) | skip) | skip))
            refine ⟨(i + 1, n + c), by simp only; omega, ⟨by simp only; omega, by simp only; omega, by simp only; omega, hg⟩, ?_⟩
            (refine Weak.renS [] hfx rfl ?_ ?_ rfl <;> (simp only [go_sem, reduceIte, exists_eq_left', exists_eq_left, Blk.mk.injEq] <;> (try and_intros) <;> first | rfl | omega))
        · rw [if_neg hri] at hg
          subst hg
          rw [hfit (by decide)]
          have hd : decide (rightI (r, m, c)) = false := decide_eq_false hri
          have FX := And.intro hat (And.intro hle (And.intro hg2 hd))
          repeat' (first | refine WK.seq ?_ | refine WK.reg ?_ | refine IL.nil ?_ | refine WK.skip ?_ | refine WK.block ?_ | refine WK.exit_here ?_ | refine WK.e1 ?_ | refine WK.e2 ?_ | (with_reducible refine IL.wr ?_ ?_; focus exact cW) | refine IL.sgF ttok ?_ | refine IL.cSF ttok ent104 [.bor] true ?_ (hS := by exact hsr) | refine IL.cSF ttok ent105 [.bor] true ?_ (hS := by exact hap) | (refine WK.cn (fun h => ?_) (fun h => ?_); all_goals first | (simp only [reduceCtorEq] at h; done) | (simp only [hsA, hsD, hsE, ne_eq] at h; first | done | (exfalso; omega; done) | skip) | skip))
          all_goals try ((first | refine WK.ret ⟨.inr rfl, ?_⟩ | refine ⟨.inl rfl, ?_⟩ | refine ⟨.inl trivial, ?_⟩); refine Fin.o ?_ ?_ (h1 := by first | rfl | (simp only [go_sem, show Tryz.f92.results.toList = [.tmp 2] from rfl, reduceIte] <;> rfl)); rotate_left 1; (focus (first | rfl | skip)); all_goals try with_reducible rfl)
end Go.Proofs.YtclhjcbnpdlgbaaGreatDoor
/- The package variable ident.root. -/
namespace Go.Proofs.YtclhjcbnpdlgbaaGreatDoor
open Go Go.Lift
set_option maxHeartbeats 4000000
set_option linter.unusedSimpArgs false
set_option linter.unusedVariables false
attribute [local irreducible] WK IL IP IG IW DW

def GT : List (Nat × List IV) := [(0, [.v (.int .u16 0), .v (.int .u32 0)])]
theorem idRoot_call (r n : Int) : SCallG GT Tryz.prog 103 [.agg [.v (.int .u16 r), .v (.int .u32 n)]] (.v (.bool (decide (r = 0 ∧ n = 0)))) [.agg [.v (.int .u16 r), .v (.int .u32 n)]] := by
  refine SCallG.of_body' (G := GT) (TT := TT) (fun _ => false) [false] ttok Tryz.func103 rfl (Nat.le_of_ble_eq_true rfl) rfl fun fx hfx hgf => WK.top ?_
  simp only [impl, imp, argT, List.append_nil, List.map_nil, List.nil_append, show Tryz.f103.ntmps = 6 from rfl, Nat.zero_add, Nat.reduceAdd]
  repeat' (first | refine WK.seq ?_ | refine WK.reg ?_ | refine IL.nil ?_ | (with_reducible refine IL.wr ?_ ?_; focus exact cW) | refine IL.sg ttok ?_ | (refine IL.gload (σ' := ?_) (cs := ?_) (v := ?_) ttok hgf cG rfl rfl ?_ ?_ (fun K hK => ?_) ?_; rotate_left 3; (focus (first | exact List.Mem.head _ | exact List.Mem.tail _ (List.Mem.head _) | exact List.Mem.tail _ (List.Mem.tail _ (List.Mem.head _)))); (focus rfl); (focus (simp only [go_sem, reduceIte]; exact cK hK))))
  all_goals try ((first | refine WK.ret ⟨.inr rfl, ?_⟩ | refine ⟨.inl rfl, ?_⟩ | refine ⟨.inl trivial, ?_⟩); refine Fin.o ?_ ?_ (h1 := by first | rfl | (simp only [go_sem, show Tryz.f103.results.toList = [.tmp 2] from rfl, reduceIte] <;> rfl)); rotate_left 1; (focus (first | rfl | skip)); all_goals try with_reducible rfl)
  all_goals (refine congrArg (fun b => IV.v (.bool b)) ?_; rw [Bool.eq_iff_iff]; simp)
end Go.Proofs.YtclhjcbnpdlgbaaGreatDoor
/- The code's operations: Plain, Atoms, bare, numbered, Fit. -/
namespace Go.Proofs.YtclhjcbnpdlgbaaGreatDoor
open Go Go.Lift
set_option maxHeartbeats 4000000
set_option linter.unusedSimpArgs false
set_option linter.unusedVariables false
attribute [local irreducible] WK IL IP IG IW DW

theorem cPlain_call (t : List UInt8) (ht : t.length ≤ 100000) : SCall Tryz.prog 91 [.v (.string ⟨t.toArray⟩)] (.v (.bool (decide (plainT t)))) [.v (.string ⟨t.toArray⟩)] := by
  refine SCall.of_body' (TT := TT) (fun _ => false) [false] ttok Tryz.func91 rfl (Nat.le_of_ble_eq_true rfl) rfl fun fx hfx => WK.top ?_
  simp only [impl, imp, argT, List.append_nil, List.map_nil, List.nil_append, show Tryz.f91.ntmps = 23 from rfl, Nat.zero_add, Nat.reduceAdd]
  repeat' (first | refine WK.seq ?_ | refine WK.reg ?_ | refine IL.nil ?_ | refine WK.skip ?_ | refine WK.block ?_ | refine WK.exit_here ?_ | refine WK.e1 ?_ | refine WK.e2 ?_ | (with_reducible refine IL.wr ?_ ?_; focus exact cW) | refine IL.sg ttok ?_ | refine IL.nn ?_ | ((first | ((first | refine IL.ag (fun h => ?_) (fun h => ?_) | refine IL.ap (fun h => ?_) (fun h => ?_)); (fail_if_success (focus (simp only [reduceCtorEq] at h)))) | refine WK.cn (fun h => ?_) (fun h => ?_)); all_goals first | (simp only [reduceCtorEq] at h; done) | (simp only [hsA, hsD, hsE, ne_eq] at h; first | done | (exfalso; omega; done) | skip) | skip))
  refine WK.forS t.length (fun i => plainT (t.take i)) (fun i => ⟨23, [(6, .tr t.length (bcells t)), (7, .v (.int .i64 t.length)), (8, .v (.int .i64 i))], []⟩) ⟨by simp [plainT], ?_⟩ (fun i hi ho => ?_) (fun ho => ?_)
  · (refine Weak.cut' rfl rfl ?_; exact cA)
  · have hx : t[i]? = some t[i] := List.getElem?_eq_getElem hi
    have htk : t.take (i + 1) = t.take i ++ [t[i]] := by rw [List.take_add_one, hx]; rfl
    have hbad : ¬ (t[i].toNat = 10 ∨ (32 ≤ t[i].toNat ∧ t[i].toNat ≤ 126)) → ¬ plainT t := fun h hp => h (hp _ (List.getElem_mem hi))
    have hgo : (t[i].toNat = 10 ∨ (32 ≤ t[i].toNat ∧ t[i].toNat ≤ 126)) → plainT (t.take (i + 1)) := fun h c hc => by
      rw [htk] at hc
      rcases List.mem_append.1 hc with hc | hc
      · exact ho c hc
      · simp only [List.mem_cons, List.not_mem_nil, or_false] at hc; subst hc; exact h
    have hc := t[i].toNat_lt
    have hbc := bcells_get hx
    have hne := bcells_ne hx
    generalize t[i] = c at *
    have FX := hbc
    repeat' (first | refine WK.seq ?_ | refine WK.reg ?_ | refine IL.nil ?_ | refine WK.skip ?_ | refine WK.block ?_ | refine WK.exit_here ?_ | refine WK.e1 ?_ | refine WK.e2 ?_ | (with_reducible refine IL.wr ?_ ?_; focus exact cW) | refine IL.sgF ttok ?_ | refine IL.nn ?_ | ((first | ((first | refine IL.ag (fun h => ?_) (fun h => ?_) | refine IL.ap (fun h => ?_) (fun h => ?_)); (fail_if_success (focus (simp only [reduceCtorEq] at h)))) | refine WK.cn (fun h => ?_) (fun h => ?_)); all_goals first | (simp only [reduceCtorEq] at h; done) | (simp only [hsA, hsD, hsE, ne_eq] at h; first | done | (exfalso; omega; done) | skip) | skip))
    all_goals try ((first | refine WK.ret ⟨.inr rfl, ?_⟩ | refine ⟨.inl rfl, ?_⟩ | refine ⟨.inl trivial, ?_⟩); refine Fin.o ?_ ?_ (h1 := by first | rfl | (simp only [go_sem, show Tryz.f91.results.toList = [.tmp 2] from rfl, reduceIte] <;> rfl)); rotate_left 1; (focus (first | rfl | skip)); all_goals try with_reducible rfl)
    all_goals first | rw [decide_eq_false (hbad (by omega))] | (refine ⟨hgo (by omega), ?_⟩; (refine Weak.cut' rfl rfl ?_; exact cA))
  · rw [List.take_length] at ho
    repeat' (first | refine WK.seq ?_ | refine WK.reg ?_ | refine IL.nil ?_ | refine WK.skip ?_ | refine WK.block ?_ | refine WK.exit_here ?_ | refine WK.e1 ?_ | refine WK.e2 ?_ | (with_reducible refine IL.wr ?_ ?_; focus exact cW) | refine IL.sg ttok ?_ | refine IL.nn ?_ | ((first | ((first | refine IL.ag (fun h => ?_) (fun h => ?_) | refine IL.ap (fun h => ?_) (fun h => ?_)); (fail_if_success (focus (simp only [reduceCtorEq] at h)))) | refine WK.cn (fun h => ?_) (fun h => ?_)); all_goals first | (simp only [reduceCtorEq] at h; done) | (simp only [hsA, hsD, hsE, ne_eq] at h; first | done | (exfalso; omega; done) | skip) | skip))
    all_goals try ((first | refine WK.ret ⟨.inr rfl, ?_⟩ | refine ⟨.inl rfl, ?_⟩ | refine ⟨.inl trivial, ?_⟩); refine Fin.o ?_ ?_ (h1 := by first | rfl | (simp only [go_sem, show Tryz.f91.results.toList = [.tmp 2] from rfl, reduceIte] <;> rfl)); rotate_left 1; (focus (first | rfl | skip)); all_goals try with_reducible rfl)
    rw [decide_eq_true ho]
theorem cTotal_call (l : List Sp) (nn : Nat) (hnn : nn = l.length) (hl : l.length ≤ 100000) (hr : ∀ s ∈ l, rightI s) : SCall Tryz.prog 79 [.tr nn (encs spC l)] (.v (.int .i64 (tot l))) [.tr nn (encs spC l)] := by
  subst hnn
  refine SCall.of_body' (TT := TT) (fun _ => false) [false] ttok Tryz.func79 rfl (Nat.le_of_ble_eq_true rfl) rfl fun fx hfx => WK.top ?_
  simp only [impl, imp, argT, List.append_nil, List.map_nil, List.nil_append, show Tryz.f79.ntmps = 18 from rfl, Nat.zero_add, Nat.reduceAdd]
  repeat' (first | refine WK.seq ?_ | refine WK.reg ?_ | refine IL.nil ?_ | refine WK.skip ?_ | refine WK.block ?_ | refine WK.exit_here ?_ | refine WK.e1 ?_ | refine WK.e2 ?_ | (with_reducible refine IL.wr ?_ ?_; focus exact cW) | refine IL.sg ttok ?_ | (refine WK.cn (fun h => ?_) (fun h => ?_); all_goals first | (simp only [reduceCtorEq] at h; done) | (simp only [hsA, hsD, hsE, ne_eq] at h; first | done | (exfalso; omega; done) | skip) | skip))
  refine WK.forS l.length (fun k => 0 ≤ tot (l.take k) ∧ tot (l.take k) ≤ 1024 * (k : Int)) (fun k => ⟨18, [(3, .v (.int .i64 (tot (l.take k)))), (6, .tr l.length (encs spC l)), (7, .v (.int .i64 l.length)), (8, .v (.int .i64 k))], []⟩) ⟨by simp [tot], ?_⟩ (fun k hk ho => ?_) (fun ho => ?_)
  · rw [show tot (l.take 0) = 0 from rfl]
    (refine Weak.renS [] hfx rfl ?_ ?_ rfl <;> (simp only [go_sem, reduceIte, exists_eq_left', exists_eq_left, Blk.mk.injEq] <;> (try and_intros) <;> first | rfl | omega))
  · have hx : l[k]? = some l[k] := List.getElem?_eq_getElem hk
    have hri := hr _ (List.getElem_mem hk)
    generalize l[k] = s at *
    unfold rightI at hri
    have hts : tot (l.take (k + 1)) = tot (l.take k) + s.2.2 := by rw [List.take_add_one, hx]; simp [tot]
    have hle : k * 3 + 3 ≤ l.length * 3 := by omega
    have hat : ((encs spC l).drop (k * 3)).take 3 = [.v (.int .u16 s.1), .v (.int .u32 s.2.1), .v (.int .i64 s.2.2)] := encs_at spC_length hx
    have hne : encs spC l ≠ [] := encs_ne spC_length (by decide) hx
    rw [hts]
    generalize tot (l.take k) = t at *
    have FX := And.intro hat hle
    repeat' (first | refine WK.seq ?_ | refine WK.reg ?_ | refine IL.nil ?_ | refine WK.skip ?_ | refine WK.block ?_ | refine WK.exit_here ?_ | refine WK.e1 ?_ | refine WK.e2 ?_ | (with_reducible refine IL.wr ?_ ?_; focus exact cW) | refine IL.sgF ttok ?_ | (refine WK.cn (fun h => ?_) (fun h => ?_); all_goals first | (simp only [reduceCtorEq] at h; done) | (simp only [hsA, hsD, hsE, ne_eq] at h; first | done | (exfalso; omega; done) | skip) | skip))
    refine ⟨⟨by omega, by omega⟩, ?_⟩
    (refine Weak.renS [] hfx rfl ?_ ?_ rfl <;> (simp only [go_sem, reduceIte, exists_eq_left', exists_eq_left, Blk.mk.injEq] <;> (try and_intros) <;> first | rfl | omega))
  · rw [List.take_length] at ho ⊢
    repeat' (first | refine WK.seq ?_ | refine WK.reg ?_ | refine IL.nil ?_ | refine WK.skip ?_ | refine WK.block ?_ | refine WK.exit_here ?_ | refine WK.e1 ?_ | refine WK.e2 ?_ | (with_reducible refine IL.wr ?_ ?_; focus exact cW) | refine IL.sg ttok ?_ | (refine WK.cn (fun h => ?_) (fun h => ?_); all_goals first | (simp only [reduceCtorEq] at h; done) | (simp only [hsA, hsD, hsE, ne_eq] at h; first | done | (exfalso; omega; done) | skip) | skip))
    all_goals try ((first | refine WK.ret ⟨.inr rfl, ?_⟩ | refine ⟨.inl rfl, ?_⟩ | refine ⟨.inl trivial, ?_⟩); refine Fin.o ?_ ?_ (h1 := by first | rfl | (simp only [go_sem, show Tryz.f79.results.toList = [.tmp 2] from rfl, reduceIte] <;> rfl)); rotate_left 1; (focus (first | rfl | skip)); all_goals try with_reducible rfl)
theorem cAtoms_call (k r n m q : Int) (t : List UInt8) (s : List Sp) (nn : Nat) (hnn : nn = s.length) (ht : t.length ≤ 100000) (hs : s.length ≤ 100000) (h3 : k = 3 → (∀ x ∈ s, rightI x) ∧ tot s ≤ 1024) : SCall Tryz.prog 58 [.agg (opL k r n m t (.tr nn (encs spC s)) q)] (.v (.int .i64 (atoms k t s : Int))) [.agg (opL k r n m t (.tr nn (encs spC s)) q)] := by
  subst hnn
  unfold atoms
  by_cases k1 : k = 1
  · rw [if_pos k1]
    refine SCall.of_body' (TT := TT) (fun _ => false) [false] ttok Tryz.func58 rfl (Nat.le_of_ble_eq_true rfl) rfl fun fx hfx => WK.top ?_
    simp only [impl, imp, argT, List.append_nil, List.map_nil, List.nil_append, show Tryz.f58.ntmps = 15 from rfl, Nat.zero_add, Nat.reduceAdd]
    repeat' (first | refine WK.seq ?_ | refine WK.reg ?_ | refine IL.nil ?_ | refine WK.skip ?_ | refine WK.block ?_ | (with_reducible refine IL.wr ?_ ?_; focus exact cW) | refine IL.sg ttok ?_ | refine IL.cS ttok ent79 [.bor] true ?_ (hS := by refine cTotal_call _ _ rfl ?_ g1 <;> exact cO) | (refine WK.cn (fun h => ?_) (fun h => ?_); all_goals first | (simp only [reduceCtorEq] at h; done) | (simp only [hsA, hsD, hsE, ne_eq] at h; first | done | (exfalso; omega; done) | skip) | skip))
    all_goals try ((first | refine WK.ret ⟨.inr rfl, ?_⟩ | refine ⟨.inl rfl, ?_⟩ | refine ⟨.inl trivial, ?_⟩); refine Fin.o ?_ ?_ (h1 := by first | rfl | (simp only [go_sem, show Tryz.f58.results.toList = [.tmp 2] from rfl, reduceIte] <;> rfl)); rotate_left 1; (focus (first | rfl | skip)); all_goals try with_reducible rfl)
    all_goals simp
  · rw [if_neg k1]
    by_cases k3 : k = 3
    · rw [if_pos k3]
      obtain ⟨g1, g2⟩ := h3 k3
      have e := idsL_len s g1
      refine SCall.of_body' (TT := TT) (fun _ => false) [false] ttok Tryz.func58 rfl (Nat.le_of_ble_eq_true rfl) rfl fun fx hfx => WK.top ?_
      simp only [impl, imp, argT, List.append_nil, List.map_nil, List.nil_append, show Tryz.f58.ntmps = 15 from rfl, Nat.zero_add, Nat.reduceAdd]
      repeat' (first | refine WK.seq ?_ | refine WK.reg ?_ | refine IL.nil ?_ | refine WK.skip ?_ | refine WK.block ?_ | (with_reducible refine IL.wr ?_ ?_; focus exact cW) | refine IL.sg ttok ?_ | refine IL.cS ttok ent79 [.bor] true ?_ (hS := by refine cTotal_call _ _ rfl ?_ g1 <;> exact cO) | (refine WK.cn (fun h => ?_) (fun h => ?_); all_goals first | (simp only [reduceCtorEq] at h; done) | (simp only [hsA, hsD, hsE, ne_eq] at h; first | done | (exfalso; omega; done) | skip) | skip))
      all_goals try ((first | refine WK.ret ⟨.inr rfl, ?_⟩ | refine ⟨.inl rfl, ?_⟩ | refine ⟨.inl trivial, ?_⟩); refine Fin.o ?_ ?_ (h1 := by first | rfl | (simp only [go_sem, show Tryz.f58.results.toList = [.tmp 2] from rfl, reduceIte] <;> rfl)); rotate_left 1; (focus (first | rfl | skip)); all_goals try with_reducible rfl)
      all_goals rw [e]
    · rw [if_neg k3]
      refine SCall.of_body' (TT := TT) (fun _ => false) [false] ttok Tryz.func58 rfl (Nat.le_of_ble_eq_true rfl) rfl fun fx hfx => WK.top ?_
      simp only [impl, imp, argT, List.append_nil, List.map_nil, List.nil_append, show Tryz.f58.ntmps = 15 from rfl, Nat.zero_add, Nat.reduceAdd]
      repeat' (first | refine WK.seq ?_ | refine WK.reg ?_ | refine IL.nil ?_ | refine WK.skip ?_ | refine WK.block ?_ | (with_reducible refine IL.wr ?_ ?_; focus exact cW) | refine IL.sg ttok ?_ | refine IL.cS ttok ent79 [.bor] true ?_ (hS := by refine cTotal_call _ _ rfl ?_ g1 <;> exact cO) | (refine WK.cn (fun h => ?_) (fun h => ?_); all_goals first | (simp only [reduceCtorEq] at h; done) | (simp only [hsA, hsD, hsE, ne_eq] at h; first | done | (exfalso; omega; done) | skip) | skip))
      all_goals try ((first | refine WK.ret ⟨.inr rfl, ?_⟩ | refine ⟨.inl rfl, ?_⟩ | refine ⟨.inl trivial, ?_⟩); refine Fin.o ?_ ?_ (h1 := by first | rfl | (simp only [go_sem, show Tryz.f58.results.toList = [.tmp 2] from rfl, reduceIte] <;> rfl)); rotate_left 1; (focus (first | rfl | skip)); all_goals try with_reducible rfl)
      all_goals rfl
def bareI (k r n m q : Int) (t : List UInt8) (s : List Sp) : Prop := ((k = 1 ∨ k = 3) ∨ (r = 0 ∧ n = 0) ∧ m = 0) ∧ (k = 1 ∨ t = []) ∧ ((k = 2 ∨ k = 3) ∨ s = []) ∧ ((k = 4 ∨ k = 5) ∨ q = 0)
instance (k r n m q : Int) (t : List UInt8) (s : List Sp) : Decidable (bareI k r n m q t s) := by unfold bareI; infer_instance
theorem cBare_call (k r n m q : Int) (t : List UInt8) (s : List Sp) (nn : Nat) (hnn : nn = s.length) : SCallG GT Tryz.prog 90 [.agg (opL k r n m t (.tr nn (encs spC s)) q)] (.v (.bool (decide (bareI k r n m q t s)))) [.agg (opL k r n m t (.tr nn (encs spC s)) q)] := by
  subst hnn
  have hs0 : s = [] ↔ s.length = 0 := List.length_eq_zero_iff.symm
  unfold bareI
  refine SCallG.of_body' (G := GT) (TT := TT) (fun _ => false) [false] ttok Tryz.func90 rfl (Nat.le_of_ble_eq_true rfl) rfl fun fx hfx hgf => WK.top ?_
  simp only [impl, imp, argT, List.append_nil, List.map_nil, List.nil_append, show Tryz.f90.ntmps = 68 from rfl, Nat.zero_add, Nat.reduceAdd]
  repeat' (first | refine WK.seq ?_ | refine WK.reg ?_ | refine IL.nil ?_ | (with_reducible refine IL.wr ?_ ?_; focus exact cW) | refine IL.sg ttok ?_ | refine IL.nn ?_ | refine IL.cSG hgf ttok ent103 [.bor] true ?_ (hS := by exact idRoot_call _ _) | (((first | refine IL.ag (fun h => ?_) (fun h => ?_) | refine IL.ap (fun h => ?_) (fun h => ?_)); (fail_if_success (focus (simp only [reduceCtorEq] at h)))); all_goals first | (simp only [reduceCtorEq] at h; done) | (simp only [hsA, hsD, hsE, ne_eq] at h; first | done | (exfalso; omega; done) | skip) | skip))
  all_goals try ((first | refine WK.ret ⟨.inr rfl, ?_⟩ | refine ⟨.inl rfl, ?_⟩ | refine ⟨.inl trivial, ?_⟩); refine Fin.o ?_ ?_ (h1 := by first | rfl | (simp only [go_sem, show Tryz.f90.results.toList = [.tmp 2] from rfl, reduceIte] <;> rfl)); rotate_left 1; (focus (first | rfl | skip)); all_goals try with_reducible rfl)
  all_goals grind
theorem cNumd_call (k r n m q : Int) (t : List UInt8) (s : List Sp) (nn : Nat) (hnn : nn = s.length) (ht : t.length ≤ 100000) (hs : s.length ≤ 100000) (h3 : k = 3 → (∀ x ∈ s, rightI x) ∧ tot s ≤ 1024) (hn : 0 ≤ n) (hm : 0 ≤ m ∧ m ≤ 4294967295) (h1 : 1 ≤ atoms k t s) : SCallG GT Tryz.prog 93 [.agg (opL k r n m t (.tr nn (encs spC s)) q)] (.v (.bool (decide (numd k r n m t s)))) [.agg (opL k r n m t (.tr nn (encs spC s)) q)] := by
  subst hnn
  have hb : atoms k t s ≤ 100000 := by
    unfold atoms
    split
    · exact ht
    · split
      · rename_i h; have := idsL_len s (h3 h).1; have := (h3 h).2; omega
      · omega
  have hA := cAtoms_call k r n m q t s s.length rfl ht hs h3
  unfold numd
  refine SCallG.of_body' (G := GT) (TT := TT) (fun _ => false) [false] ttok Tryz.func93 rfl (Nat.le_of_ble_eq_true rfl) rfl fun fx hfx hgf => WK.top ?_
  simp only [impl, imp, argT, List.append_nil, List.map_nil, List.nil_append, show Tryz.f93.ntmps = 26 from rfl, Nat.zero_add, Nat.reduceAdd]
  repeat' (first | refine WK.seq ?_ | refine WK.reg ?_ | refine IL.nil ?_ | refine WK.drawnS (id := 1) mixed [] [2, 6, 18] [0, 0, 0, 1, 1, 1, 1, 2, 2, 2, 2, 2, 2, 2, 2, 2, 2, 2, 2, 3, 3, 3, 3, 3] [0, 0, 0, 1, 1, 1, 1, 2, 2, 2, 2, 2, 2, 2, 3, 3, 3, 2, 2, 3, 3, 3, 3, 3] (by decide +kernel) ?_ | refine DW.nil ?_ | (with_reducible refine IL.wr ?_ ?_; focus exact cW) | (with_reducible refine DW.wr ?_ ?_; focus exact cW) | refine IL.sg ttok ?_ | refine DW.re ttok ?_ | refine DW.rm ttok ?_ | refine DW.nn ?_ | refine DW.nb ?_ | refine DW.cS ttok ent58 [.bor] true ?_ (hS := by exact hA) | refine DW.cSG hgf ttok ent103 [.bor] true ?_ (hS := by exact idRoot_call _ _) | refine DW.cS ttok ent106 [.bor] true ?_ (hS := by exact idRight_call _ _) | (((first | refine DW.ag (fun h => ?_) (fun h => ?_) | refine DW.ap (fun h => ?_) (fun h => ?_)); (fail_if_success (focus (simp only [reduceCtorEq] at h)))); all_goals first | (simp only [reduceCtorEq] at h; done) | (simp only [hsA, hsD, hsE, ne_eq] at h; first | done | (exfalso; omega; done) | skip) | skip))
  all_goals try ((first | refine WK.ret ⟨.inr rfl, ?_⟩ | refine ⟨.inl rfl, ?_⟩ | refine ⟨.inl trivial, ?_⟩); refine Fin.o ?_ ?_ (h1 := by first | rfl | (simp only [go_sem, show Tryz.f93.results.toList = [.tmp 2] from rfl, reduceIte] <;> rfl)); rotate_left 1; (focus (first | rfl | skip)); all_goals try with_reducible rfl)
  all_goals first | (refine congrArg (fun b => IV.v (.bool b)) (decide_eq_false ?_).symm; omega) | (refine congrArg (fun b => IV.v (.bool b)) (decide_eq_decide.2 ?_); omega)
theorem fit7_pos {s : List Sp} (h : fit7 s = 0) : 1 ≤ (idsL s).length := by
  have h0 : ¬ s = [] := fun e => by subst e; simp [fit7] at h
  obtain ⟨g1, _⟩ := fit7_ok h
  have := idsL_len s g1
  have key : ∀ (l : List Sp), (∀ x ∈ l, rightI x) → 0 ≤ tot l := by
    intro l
    induction l with
    | nil => intro _; simp [tot]
    | cons a l ih =>
      intro hl
      have h1 := hl a (by simp)
      have h2 := ih fun x hx => hl x (by simp [hx])
      unfold rightI at h1
      unfold tot at h2 ⊢
      rw [List.map_cons, List.sum_cons]; omega
  cases s with
  | nil => exact absurd rfl h0
  | cons a l =>
    have h1 := g1 a (by simp)
    have h2 := key l fun x hx => g1 x (by simp [hx])
    unfold rightI at h1
    have : tot (a :: l) = a.2.2 + tot l := by unfold tot; rw [List.map_cons, List.sum_cons]
    omega
theorem cFit_call (k r n m q : Int) (t : List UInt8) (s : List Sp) (nn : Nat) (hnn : nn = s.length) (ht : t.length ≤ 1000) (hs : s.length ≤ 1024) (hn : 0 ≤ n) (hm : 0 ≤ m ∧ m ≤ 4294967295) (hq : 0 ≤ q ∧ q ≤ 4294967295) (hb : ∀ x ∈ s, (0 ≤ x.2.1 ∧ x.2.1 ≤ 4294967295) ∧ (-9223372036854775808 ≤ x.2.2 ∧ x.2.2 ≤ 9223372036854775807)) :
    SCallG GT Tryz.prog 66 [.agg (opL k r n m t (.tr nn (encs spC s)) q)] (.v (.int .i64 (fit8 k r n m t s q))) [.agg (opL k r n m t (.tr nn (encs spC s)) q)] := by
  subst hnn
  have hs0 : s = [] ↔ s.length = 0 := List.length_eq_zero_iff.symm
  have hsf := spFit_call s s.length rfl (by omega) hb
  by_cases k1 : k = 1
  · have h3 : k = 3 → (∀ x ∈ s, rightI x) ∧ tot s ≤ 1024 := fun h => by omega
    by_cases t0 : t = []
    · unfold fit8
      rw [if_pos k1, if_pos (by grind)]
      refine SCallG.of_body' (G := GT) (TT := TT) (fun _ => false) [false] ttok Tryz.func66 rfl (Nat.le_of_ble_eq_true rfl) rfl fun fx hfx hgf => WK.top ?_
      simp only [impl, imp, argT, List.append_nil, List.map_nil, List.nil_append, show Tryz.f66.ntmps = 59 from rfl, Nat.zero_add, Nat.reduceAdd]
      repeat' (first | refine WK.seq ?_ | refine WK.reg ?_ | refine IL.nil ?_ | refine WK.skip ?_ | refine WK.block ?_ | (with_reducible refine IL.wr ?_ ?_; focus exact cW) | refine IL.sg ttok ?_ | refine IL.nn ?_ | refine IL.cSG hgf ttok ent90 [.bor] true ?_ (hS := by exact cBare_call _ _ _ _ _ _ _ _ rfl) | refine IL.cS ttok ent91 [.bor] true ?_ (hS := by refine cPlain_call _ ?_ <;> exact cO) | refine IL.cS ttok ent92 [.bor] true ?_ (hS := by exact hsf) | refine IL.cSG hgf ttok ent93 [.bor] true ?_ (hS := by exact hnu) | ((first | ((first | refine IL.ag (fun h => ?_) (fun h => ?_) | refine IL.ap (fun h => ?_) (fun h => ?_)); (fail_if_success (focus (simp only [reduceCtorEq] at h)))) | refine WK.cn (fun h => ?_) (fun h => ?_)); all_goals first | (simp only [reduceCtorEq] at h; done) | (simp only [hsA, hsD, hsE, ne_eq] at h; first | done | (exfalso; omega; done) | skip) | skip))
      all_goals try ((first | refine WK.ret ⟨.inr rfl, ?_⟩ | refine ⟨.inl rfl, ?_⟩ | refine ⟨.inl trivial, ?_⟩); refine Fin.o ?_ ?_ (h1 := by first | rfl | (simp only [go_sem, show Tryz.f66.results.toList = [.tmp 2] from rfl, reduceIte] <;> rfl)); rotate_left 1; (focus (first | rfl | skip)); all_goals try with_reducible rfl)
      all_goals grind [bareI]
    · have hnu := cNumd_call k r n m q t s s.length rfl (by omega) (by omega) h3 hn hm (by unfold atoms; rw [if_pos k1]; cases t <;> simp at t0 ⊢)
      unfold fit8
      rw [if_pos k1]
      refine SCallG.of_body' (G := GT) (TT := TT) (fun _ => false) [false] ttok Tryz.func66 rfl (Nat.le_of_ble_eq_true rfl) rfl fun fx hfx hgf => WK.top ?_
      simp only [impl, imp, argT, List.append_nil, List.map_nil, List.nil_append, show Tryz.f66.ntmps = 59 from rfl, Nat.zero_add, Nat.reduceAdd]
      repeat' (first | refine WK.seq ?_ | refine WK.reg ?_ | refine IL.nil ?_ | refine WK.skip ?_ | refine WK.block ?_ | (with_reducible refine IL.wr ?_ ?_; focus exact cW) | refine IL.sg ttok ?_ | refine IL.nn ?_ | refine IL.cSG hgf ttok ent90 [.bor] true ?_ (hS := by exact cBare_call _ _ _ _ _ _ _ _ rfl) | refine IL.cS ttok ent91 [.bor] true ?_ (hS := by refine cPlain_call _ ?_ <;> exact cO) | refine IL.cS ttok ent92 [.bor] true ?_ (hS := by exact hsf) | refine IL.cSG hgf ttok ent93 [.bor] true ?_ (hS := by exact hnu) | ((first | ((first | refine IL.ag (fun h => ?_) (fun h => ?_) | refine IL.ap (fun h => ?_) (fun h => ?_)); (fail_if_success (focus (simp only [reduceCtorEq] at h)))) | refine WK.cn (fun h => ?_) (fun h => ?_)); all_goals first | (simp only [reduceCtorEq] at h; done) | (simp only [hsA, hsD, hsE, ne_eq] at h; first | done | (exfalso; omega; done) | skip) | skip))
      all_goals try ((first | refine WK.ret ⟨.inr rfl, ?_⟩ | refine ⟨.inl rfl, ?_⟩ | refine ⟨.inl trivial, ?_⟩); refine Fin.o ?_ ?_ (h1 := by first | rfl | (simp only [go_sem, show Tryz.f66.results.toList = [.tmp 2] from rfl, reduceIte] <;> rfl)); rotate_left 1; (focus (first | rfl | skip)); all_goals try with_reducible rfl)
      all_goals grind [bareI]
  · by_cases k2 : k = 2
    · unfold fit8
      rw [if_neg k1, if_pos k2]
      refine SCallG.of_body' (G := GT) (TT := TT) (fun _ => false) [false] ttok Tryz.func66 rfl (Nat.le_of_ble_eq_true rfl) rfl fun fx hfx hgf => WK.top ?_
      simp only [impl, imp, argT, List.append_nil, List.map_nil, List.nil_append, show Tryz.f66.ntmps = 59 from rfl, Nat.zero_add, Nat.reduceAdd]
      repeat' (first | refine WK.seq ?_ | refine WK.reg ?_ | refine IL.nil ?_ | refine WK.skip ?_ | refine WK.block ?_ | (with_reducible refine IL.wr ?_ ?_; focus exact cW) | refine IL.sg ttok ?_ | refine IL.nn ?_ | refine IL.cSG hgf ttok ent90 [.bor] true ?_ (hS := by exact cBare_call _ _ _ _ _ _ _ _ rfl) | refine IL.cS ttok ent91 [.bor] true ?_ (hS := by refine cPlain_call _ ?_ <;> exact cO) | refine IL.cS ttok ent92 [.bor] true ?_ (hS := by exact hsf) | refine IL.cSG hgf ttok ent93 [.bor] true ?_ (hS := by exact hnu) | ((first | ((first | refine IL.ag (fun h => ?_) (fun h => ?_) | refine IL.ap (fun h => ?_) (fun h => ?_)); (fail_if_success (focus (simp only [reduceCtorEq] at h)))) | refine WK.cn (fun h => ?_) (fun h => ?_)); all_goals first | (simp only [reduceCtorEq] at h; done) | (simp only [hsA, hsD, hsE, ne_eq] at h; first | done | (exfalso; omega; done) | skip) | skip))
      all_goals try ((first | refine WK.ret ⟨.inr rfl, ?_⟩ | refine ⟨.inl rfl, ?_⟩ | refine ⟨.inl trivial, ?_⟩); refine Fin.o ?_ ?_ (h1 := by first | rfl | (simp only [go_sem, show Tryz.f66.results.toList = [.tmp 2] from rfl, reduceIte] <;> rfl)); rotate_left 1; (focus (first | rfl | skip)); all_goals try with_reducible rfl)
      all_goals grind [bareI, placeI]
    · by_cases k3 : k = 3
      · unfold fit8
        rw [if_neg k1, if_neg k2, if_pos k3]
        by_cases hf : fit7 s = 0
        · have h3 : k = 3 → (∀ x ∈ s, rightI x) ∧ tot s ≤ 1024 := fun _ => fit7_ok hf
          have hnu := cNumd_call k r n m q t s s.length rfl (by omega) (by omega) h3 hn hm (by unfold atoms; rw [if_neg k1, if_pos k3]; exact fit7_pos hf)
          refine SCallG.of_body' (G := GT) (TT := TT) (fun _ => false) [false] ttok Tryz.func66 rfl (Nat.le_of_ble_eq_true rfl) rfl fun fx hfx hgf => WK.top ?_
          simp only [impl, imp, argT, List.append_nil, List.map_nil, List.nil_append, show Tryz.f66.ntmps = 59 from rfl, Nat.zero_add, Nat.reduceAdd]
          repeat' (first | refine WK.seq ?_ | refine WK.reg ?_ | refine IL.nil ?_ | refine WK.skip ?_ | refine WK.block ?_ | (with_reducible refine IL.wr ?_ ?_; focus exact cW) | refine IL.sg ttok ?_ | refine IL.nn ?_ | refine IL.cSG hgf ttok ent90 [.bor] true ?_ (hS := by exact cBare_call _ _ _ _ _ _ _ _ rfl) | refine IL.cS ttok ent91 [.bor] true ?_ (hS := by refine cPlain_call _ ?_ <;> exact cO) | refine IL.cS ttok ent92 [.bor] true ?_ (hS := by exact hsf) | refine IL.cSG hgf ttok ent93 [.bor] true ?_ (hS := by exact hnu) | ((first | ((first | refine IL.ag (fun h => ?_) (fun h => ?_) | refine IL.ap (fun h => ?_) (fun h => ?_)); (fail_if_success (focus (simp only [reduceCtorEq] at h)))) | refine WK.cn (fun h => ?_) (fun h => ?_)); all_goals first | (simp only [reduceCtorEq] at h; done) | (simp only [hsA, hsD, hsE, ne_eq] at h; first | done | (exfalso; omega; done) | skip) | skip))
          all_goals try ((first | refine WK.ret ⟨.inr rfl, ?_⟩ | refine ⟨.inl rfl, ?_⟩ | refine ⟨.inl trivial, ?_⟩); refine Fin.o ?_ ?_ (h1 := by first | rfl | (simp only [go_sem, show Tryz.f66.results.toList = [.tmp 2] from rfl, reduceIte] <;> rfl)); rotate_left 1; (focus (first | rfl | skip)); all_goals try with_reducible rfl)
          all_goals grind [bareI]
        · refine SCallG.of_body' (G := GT) (TT := TT) (fun _ => false) [false] ttok Tryz.func66 rfl (Nat.le_of_ble_eq_true rfl) rfl fun fx hfx hgf => WK.top ?_
          simp only [impl, imp, argT, List.append_nil, List.map_nil, List.nil_append, show Tryz.f66.ntmps = 59 from rfl, Nat.zero_add, Nat.reduceAdd]
          repeat' (first | refine WK.seq ?_ | refine WK.reg ?_ | refine IL.nil ?_ | refine WK.skip ?_ | refine WK.block ?_ | (with_reducible refine IL.wr ?_ ?_; focus exact cW) | refine IL.sg ttok ?_ | refine IL.nn ?_ | refine IL.cSG hgf ttok ent90 [.bor] true ?_ (hS := by exact cBare_call _ _ _ _ _ _ _ _ rfl) | refine IL.cS ttok ent91 [.bor] true ?_ (hS := by refine cPlain_call _ ?_ <;> exact cO) | refine IL.cS ttok ent92 [.bor] true ?_ (hS := by exact hsf) | refine IL.cSG hgf ttok ent93 [.bor] true ?_ (hS := by exact hnu) | ((first | ((first | refine IL.ag (fun h => ?_) (fun h => ?_) | refine IL.ap (fun h => ?_) (fun h => ?_)); (fail_if_success (focus (simp only [reduceCtorEq] at h)))) | refine WK.cn (fun h => ?_) (fun h => ?_)); all_goals first | (simp only [reduceCtorEq] at h; done) | (simp only [hsA, hsD, hsE, ne_eq] at h; first | done | (exfalso; omega; done) | skip) | skip))
          all_goals try ((first | refine WK.ret ⟨.inr rfl, ?_⟩ | refine ⟨.inl rfl, ?_⟩ | refine ⟨.inl trivial, ?_⟩); refine Fin.o ?_ ?_ (h1 := by first | rfl | (simp only [go_sem, show Tryz.f66.results.toList = [.tmp 2] from rfl, reduceIte] <;> rfl)); rotate_left 1; (focus (first | rfl | skip)); all_goals try with_reducible rfl)
          all_goals grind [bareI]
      · unfold fit8
        rw [if_neg k1, if_neg k2, if_neg k3]
        refine SCallG.of_body' (G := GT) (TT := TT) (fun _ => false) [false] ttok Tryz.func66 rfl (Nat.le_of_ble_eq_true rfl) rfl fun fx hfx hgf => WK.top ?_
        simp only [impl, imp, argT, List.append_nil, List.map_nil, List.nil_append, show Tryz.f66.ntmps = 59 from rfl, Nat.zero_add, Nat.reduceAdd]
        repeat' (first | refine WK.seq ?_ | refine WK.reg ?_ | refine IL.nil ?_ | refine WK.skip ?_ | refine WK.block ?_ | (with_reducible refine IL.wr ?_ ?_; focus exact cW) | refine IL.sg ttok ?_ | refine IL.nn ?_ | refine IL.cSG hgf ttok ent90 [.bor] true ?_ (hS := by exact cBare_call _ _ _ _ _ _ _ _ rfl) | refine IL.cS ttok ent91 [.bor] true ?_ (hS := by refine cPlain_call _ ?_ <;> exact cO) | refine IL.cS ttok ent92 [.bor] true ?_ (hS := by exact hsf) | refine IL.cSG hgf ttok ent93 [.bor] true ?_ (hS := by exact hnu) | ((first | ((first | refine IL.ag (fun h => ?_) (fun h => ?_) | refine IL.ap (fun h => ?_) (fun h => ?_)); (fail_if_success (focus (simp only [reduceCtorEq] at h)))) | refine WK.cn (fun h => ?_) (fun h => ?_)); all_goals first | (simp only [reduceCtorEq] at h; done) | (simp only [hsA, hsD, hsE, ne_eq] at h; first | done | (exfalso; omega; done) | skip) | skip))
        all_goals try ((first | refine WK.ret ⟨.inr rfl, ?_⟩ | refine ⟨.inl rfl, ?_⟩ | refine ⟨.inl trivial, ?_⟩); refine Fin.o ?_ ?_ (h1 := by first | rfl | (simp only [go_sem, show Tryz.f66.results.toList = [.tmp 2] from rfl, reduceIte] <;> rfl)); rotate_left 1; (focus (first | rfl | skip)); all_goals try with_reducible rfl)
        all_goals grind [bareI, placeI]
end Go.Proofs.YtclhjcbnpdlgbaaGreatDoor
/- The document writes an operation; what was written is read again. -/
namespace Go.Proofs.YtclhjcbnpdlgbaaGreatDoor
open Go Go.Lift
set_option maxHeartbeats 4000000
set_option linter.unusedSimpArgs false
set_option linter.unusedVariables false
attribute [local irreducible] WK IL IP IG IW DW

theorem tk2 (x y : List UInt8) : List.take (x.length + y.length) (x ++ y) = x ++ y := List.take_of_length_le (by simp)
theorem tk3 (x y z : List UInt8) : List.take (x.length + y.length + z.length) (x ++ y ++ z) = x ++ y ++ z := List.take_of_length_le (by simp only [List.length_append]; omega)
theorem tk4 (x y z u : List UInt8) : List.take (x.length + y.length + z.length + u.length) (x ++ y ++ z ++ u) = x ++ y ++ z ++ u := List.take_of_length_le (by simp only [List.length_append]; omega)
theorem refOpB_call (k r n m q : Nat) (t : List UInt8) (s : List Sp) (nn : Nat) (hnn : nn = s.length) (hk : k < 100) (hr : r < 65536) (hn : n < 4294967296) (hm : m < 4294967296) (hq : q < 4294967296) (ht : t.length ≤ 1000) (hs : s.length ≤ 1000) (hf : ∀ x ∈ s, fits x) :
    SCall Tryz.prog 71 [.agg (opL k r n m t (.tr nn (encs spC s)) q)] (.own 5 (opB k r n m t s q).length true (bcells (opB k r n m t s q))) [.agg (opL k r n m t (.tr nn (encs spC s)) q)] := by
  subst hnn
  have mk : k % 9223372036854775808 = k := Nat.mod_eq_of_lt (by omega)
  have mr : r % 9223372036854775808 = r := Nat.mod_eq_of_lt (by omega)
  have mn : n % 9223372036854775808 = n := Nat.mod_eq_of_lt (by omega)
  have mm : m % 9223372036854775808 = m := Nat.mod_eq_of_lt (by omega)
  have mq : q % 9223372036854775808 = q := Nat.mod_eq_of_lt (by omega)
  have l1 := numB_le 9 k (by omega)
  have l2 := numB_le 9 r (by omega)
  have l3 := numB_le 9 n (by omega)
  have l4 := numB_le 9 m (by omega)
  have l5 := numB_le 9 q (by omega)
  have l6 := numB_le 9 s.length (by omega)
  have l7 := numB_le 9 t.length (by omega)
  have l8 := spsB_len s hf
  have l9 : (spansB s).length ≤ 100000 := by simp only [spansB, List.length_append]; omega
  have l10 : (numB t.length ++ t).length ≤ 2000 := by simp only [List.length_append]; omega
  have hb : ∀ x y : List UInt8, bcells x ++ bcells y = bcells (x ++ y) := fun x y => by simp [bcells]
  have hl : ∀ x y : List UInt8, x.length + y.length = (x ++ y).length := fun x y => by simp
  unfold opB
  obtain rfl | rfl | rfl | hk4 : k = 1 ∨ k = 2 ∨ k = 3 ∨ (¬ k = 1 ∧ ¬ k = 2 ∧ ¬ k = 3) := by omega
  · rw [if_pos rfl]
    refine SCall.of_body' (TT := TT) (fun _ => false) [false] ttok Tryz.func71 rfl (Nat.le_of_ble_eq_true rfl) rfl fun fx hfx => WK.top ?_
    simp only [impl, imp, argT, List.append_nil, List.map_nil, List.nil_append, show Tryz.f71.ntmps = 63 from rfl, Nat.zero_add, Nat.reduceAdd]
    have FX := And.intro mk (And.intro mr (And.intro mn mm))
    repeat' (first | refine WK.seq ?_ | refine WK.reg ?_ | refine IL.nil ?_ | refine WK.skip ?_ | (with_reducible refine IL.wr ?_ ?_; focus exact cW) | refine IL.sgF ttok ?_ | refine IL.nn ?_ | refine IL.cSF ttok ent46 [.bor] true ?_ (hS := by refine refNum_call _ _ (Nat.lt_succ_self _) ?_ <;> exact cO) | refine IL.cSF ttok ent96 [.bor] true ?_ (hS := by refine refText_call _ ?_ <;> exact cO) | refine IL.cSF ttok ent97 [.bor] true ?_ (hS := by refine refBytes_call _ _ ?_ ?_ ?_ <;> exact cO) | ((first | ((first | refine IL.ag (fun h => ?_) (fun h => ?_) | refine IL.ap (fun h => ?_) (fun h => ?_)); (fail_if_success (focus (simp only [reduceCtorEq] at h)))) | refine WK.cn (fun h => ?_) (fun h => ?_)); all_goals first | (simp only [reduceCtorEq] at h; done) | (simp only [hsA, hsD, hsE, ne_eq] at h; first | done | (exfalso; omega; done) | skip) | skip))
    all_goals try ((first | refine WK.ret ⟨.inr rfl, ?_⟩ | refine ⟨.inl rfl, ?_⟩ | refine ⟨.inl trivial, ?_⟩); refine Fin.o ?_ ?_ (h1 := by first | rfl | (simp only [go_sem, show Tryz.f71.results.toList = [.tmp 2] from rfl, reduceIte] <;> rfl)); rotate_left 1; (focus (first | rfl | skip)); all_goals try with_reducible rfl)
    all_goals ((try simp only [tk2, tk3, tk4]); simp [spansB, Nat.add_assoc])
  · rw [if_neg (by decide), if_pos rfl]
    refine SCall.of_body' (TT := TT) (fun _ => false) [false] ttok Tryz.func71 rfl (Nat.le_of_ble_eq_true rfl) rfl fun fx hfx => WK.top ?_
    simp only [impl, imp, argT, List.append_nil, List.map_nil, List.nil_append, show Tryz.f71.ntmps = 63 from rfl, Nat.zero_add, Nat.reduceAdd]
    have FX := mk
    repeat' (first | refine WK.seq ?_ | refine WK.reg ?_ | refine IL.nil ?_ | refine WK.skip ?_ | (with_reducible refine IL.wr ?_ ?_; focus exact cW) | refine IL.sgF ttok ?_ | refine IL.nn ?_ | refine IL.cSF ttok ent46 [.bor] true ?_ (hS := by refine refNum_call _ _ (Nat.lt_succ_self _) ?_ <;> exact cO) | refine IL.cSF ttok ent96 [.bor] true ?_ (hS := by refine refText_call _ ?_ <;> exact cO) | refine IL.cSF ttok ent97 [.bor] true ?_ (hS := by refine refBytes_call _ _ ?_ ?_ ?_ <;> exact cO) | ((first | ((first | refine IL.ag (fun h => ?_) (fun h => ?_) | refine IL.ap (fun h => ?_) (fun h => ?_)); (fail_if_success (focus (simp only [reduceCtorEq] at h)))) | refine WK.cn (fun h => ?_) (fun h => ?_)); all_goals first | (simp only [reduceCtorEq] at h; done) | (simp only [hsA, hsD, hsE, ne_eq] at h; first | done | (exfalso; omega; done) | skip) | skip))
    all_goals try ((first | refine WK.ret ⟨.inr rfl, ?_⟩ | refine ⟨.inl rfl, ?_⟩ | refine ⟨.inl trivial, ?_⟩); refine Fin.o ?_ ?_ (h1 := by first | rfl | (simp only [go_sem, show Tryz.f71.results.toList = [.tmp 2] from rfl, reduceIte] <;> rfl)); rotate_left 1; (focus (first | rfl | skip)); all_goals try with_reducible rfl)
    all_goals ((try simp only [tk2, tk3, tk4]); simp [spansB, Nat.add_assoc])
  · rw [if_neg (by decide), if_neg (by decide), if_pos rfl]
    refine SCall.of_body' (TT := TT) (fun _ => false) [false] ttok Tryz.func71 rfl (Nat.le_of_ble_eq_true rfl) rfl fun fx hfx => WK.top ?_
    simp only [impl, imp, argT, List.append_nil, List.map_nil, List.nil_append, show Tryz.f71.ntmps = 63 from rfl, Nat.zero_add, Nat.reduceAdd]
    have FX := And.intro mk (And.intro mr (And.intro mn mm))
    repeat' (first | refine WK.seq ?_ | refine WK.reg ?_ | refine IL.nil ?_ | refine WK.skip ?_ | (with_reducible refine IL.wr ?_ ?_; focus exact cW) | refine IL.sgF ttok ?_ | refine IL.nn ?_ | refine IL.cSF ttok ent46 [.bor] true ?_ (hS := by refine refNum_call _ _ (Nat.lt_succ_self _) ?_ <;> exact cO) | refine IL.cSF ttok ent96 [.bor] true ?_ (hS := by refine refText_call _ ?_ <;> exact cO) | refine IL.cSF ttok ent97 [.bor] true ?_ (hS := by refine refBytes_call _ _ ?_ ?_ ?_ <;> exact cO) | ((first | ((first | refine IL.ag (fun h => ?_) (fun h => ?_) | refine IL.ap (fun h => ?_) (fun h => ?_)); (fail_if_success (focus (simp only [reduceCtorEq] at h)))) | refine WK.cn (fun h => ?_) (fun h => ?_)); all_goals first | (simp only [reduceCtorEq] at h; done) | (simp only [hsA, hsD, hsE, ne_eq] at h; first | done | (exfalso; omega; done) | skip) | skip))
    all_goals try ((first | refine WK.ret ⟨.inr rfl, ?_⟩ | refine ⟨.inl rfl, ?_⟩ | refine ⟨.inl trivial, ?_⟩); refine Fin.o ?_ ?_ (h1 := by first | rfl | (simp only [go_sem, show Tryz.f71.results.toList = [.tmp 2] from rfl, reduceIte] <;> rfl)); rotate_left 1; (focus (first | rfl | skip)); all_goals try with_reducible rfl)
    all_goals ((try simp only [tk2, tk3, tk4]); simp [spansB, Nat.add_assoc])
  · rw [if_neg hk4.1, if_neg hk4.2.1, if_neg hk4.2.2]
    refine SCall.of_body' (TT := TT) (fun _ => false) [false] ttok Tryz.func71 rfl (Nat.le_of_ble_eq_true rfl) rfl fun fx hfx => WK.top ?_
    simp only [impl, imp, argT, List.append_nil, List.map_nil, List.nil_append, show Tryz.f71.ntmps = 63 from rfl, Nat.zero_add, Nat.reduceAdd]
    have FX := And.intro mk mq
    repeat' (first | refine WK.seq ?_ | refine WK.reg ?_ | refine IL.nil ?_ | refine WK.skip ?_ | (with_reducible refine IL.wr ?_ ?_; focus exact cW) | refine IL.sgF ttok ?_ | refine IL.nn ?_ | refine IL.cSF ttok ent46 [.bor] true ?_ (hS := by refine refNum_call _ _ (Nat.lt_succ_self _) ?_ <;> exact cO) | refine IL.cSF ttok ent96 [.bor] true ?_ (hS := by refine refText_call _ ?_ <;> exact cO) | refine IL.cSF ttok ent97 [.bor] true ?_ (hS := by refine refBytes_call _ _ ?_ ?_ ?_ <;> exact cO) | ((first | ((first | refine IL.ag (fun h => ?_) (fun h => ?_) | refine IL.ap (fun h => ?_) (fun h => ?_)); (fail_if_success (focus (simp only [reduceCtorEq] at h)))) | refine WK.cn (fun h => ?_) (fun h => ?_)); all_goals first | (simp only [reduceCtorEq] at h; done) | (simp only [hsA, hsD, hsE, ne_eq] at h; first | done | (exfalso; omega; done) | skip) | skip))
    all_goals try ((first | refine WK.ret ⟨.inr rfl, ?_⟩ | refine ⟨.inl rfl, ?_⟩ | refine ⟨.inl trivial, ?_⟩); refine Fin.o ?_ ?_ (h1 := by first | rfl | (simp only [go_sem, show Tryz.f71.results.toList = [.tmp 2] from rfl, reduceIte] <;> rfl)); rotate_left 1; (focus (first | rfl | skip)); all_goals try with_reducible rfl)
    all_goals ((try simp only [tk2, tk3, tk4]); simp [spansB, Nat.add_assoc])
theorem rN (W pre : List UInt8) (a : Nat) (rest : List UInt8) (lim : Nat) (hW : W = pre ++ (numB a ++ rest)) (ha : a < 9223372036854775808) (hl : a ≤ lim) : rNum W pre.length 0 lim = (a, (pre ++ numB a).length, 0) := by
  rw [rNum_numB W pre.length a lim rest (by rw [hW]; simp) ha hl]; simp
end Go.Proofs.YtclhjcbnpdlgbaaGreatDoor
/- What was written is read again, behind whatever stands ahead. -/
namespace Go.Proofs.YtclhjcbnpdlgbaaGreatDoor
open Go Go.Lift
set_option maxHeartbeats 4000000
set_option linter.unusedSimpArgs false
set_option linter.unusedVariables false
attribute [local irreducible] WK IL IP IG IW DW

theorem getGo_at : ∀ (rest out : List Sp) (pre tail W : List UInt8), (∀ s ∈ rest, fits s) → W = pre ++ (spsB rest ++ tail) → getGo W rest.length out pre.length 0 = (out ++ rest, (pre ++ spsB rest).length, 0)
  | [], out, pre, tail, W, _, hW => by simp [getGo, spsB]
  | s :: rest, out, pre, tail, W, hf, hW => by
    obtain ⟨a, b, c, rfl, f1, f2, f3, f4, f5⟩ := fits_nat (hf s (by simp))
    have hW2 : W = pre ++ (numB a ++ (numB b ++ (numB c ++ (spsB rest ++ tail)))) := by rw [hW]; simp [spsB, spB]
    have h1 := rN W pre a (numB b ++ (numB c ++ (spsB rest ++ tail))) 65535 hW2 (by omega) f1
    have h2 := rN W (pre ++ numB a) b (numB c ++ (spsB rest ++ tail)) 268435456 (by rw [hW2]; simp) (by omega) f3
    have h3 := rN W (pre ++ numB a ++ numB b) c (spsB rest ++ tail) 1024 (by rw [hW2]; simp) (by omega) f5
    have ih := getGo_at rest (out ++ [((a : Int), (b : Int), (c : Int))]) (pre ++ numB a ++ numB b ++ numB c) tail W (fun s hs => hf s (by simp [hs])) (by rw [hW2]; simp)
    rw [List.length_cons, getGo, rSp_of h1 h2 h3]
    simp only [if_true]
    rw [ih]; simp [spsB, spB]
theorem gS_at (W pre tail : List UInt8) (s : List Sp) (hf : ∀ x ∈ s, fits x) (hs : s.length ≤ 1024) (hW : W = pre ++ (spansB s ++ tail)) : getS W pre.length 0 = (s, (pre ++ spansB s).length, 0) := by
  have h1 := rN W pre s.length (spsB s ++ tail) 1024 (by rw [hW]; simp [spansB]) (by omega) hs
  have h2 := getGo_at s [] (pre ++ numB s.length) tail W hf (by rw [hW]; simp [spansB])
  unfold getS
  rw [h1, h2]; simp [spansB]
theorem rOp_at (k r n m q : Nat) (t : List UInt8) (s : List Sp) (pre tail W : List UInt8) (hr : r ≤ 65535) (hn : n ≤ 268435456) (hm : m ≤ 268435456) (hq : q ≤ 268435456) (ht : t.length ≤ 64) (hs : s.length ≤ 1000) (hf : ∀ x ∈ s, fits x)
    (hg : (k = 1 ∧ s = [] ∧ q = 0) ∨ (k = 2 ∧ t = [] ∧ q = 0 ∧ r = 0 ∧ n = 0 ∧ m = 0) ∨ (k = 3 ∧ t = [] ∧ q = 0) ∨ ((k = 4 ∨ k = 5) ∧ t = [] ∧ s = [] ∧ r = 0 ∧ n = 0 ∧ m = 0)) (hW : W = pre ++ (opB k r n m t s q ++ tail)) :
    rOp W pre.length 0 = (⟨k, r, n, m, t, s, q⟩, (pre ++ opB k r n m t s q).length, 0) := by
  have hk : k ≤ 5 := by omega
  obtain ⟨rfl, rfl, rfl⟩ | ⟨rfl, rfl, rfl, rfl, rfl, rfl⟩ | ⟨rfl, rfl, rfl⟩ | ⟨h45, rfl, rfl, rfl, rfl, rfl⟩ := hg
  · have e : opB 1 r n m t [] 0 = numB 1 ++ numB r ++ numB n ++ numB m ++ numB t.length ++ t := by unfold opB; rw [if_pos rfl]
    rw [e] at hW ⊢
    have h1 := rN W pre 1 (numB r ++ (numB n ++ (numB m ++ (numB t.length ++ (t ++ tail))))) 5 (by rw [hW]; simp) (by omega) (by omega)
    have h2 := rN W (pre ++ numB 1) r (numB n ++ (numB m ++ (numB t.length ++ (t ++ tail)))) 65535 (by rw [hW]; simp) (by omega) hr
    have h3 := rN W (pre ++ numB 1 ++ numB r) n (numB m ++ (numB t.length ++ (t ++ tail))) 268435456 (by rw [hW]; simp) (by omega) hn
    have h4 := rN W (pre ++ numB 1 ++ numB r ++ numB n) m (numB t.length ++ (t ++ tail)) 268435456 (by rw [hW]; simp) (by omega) hm
    have h5 := rText_numB W t (pre ++ numB 1 ++ numB r ++ numB n ++ numB m).length 64 tail (by rw [show W = (pre ++ numB 1 ++ numB r ++ numB n ++ numB m) ++ (numB t.length ++ (t ++ tail)) by rw [hW]; simp, List.drop_left]) (by omega) ht (by rw [hW]; simp only [List.length_append]; omega)
    have h6 := r3_of h2 h3 h4
    unfold rOp
    rw [h1]
    simp only [rOpE, rOpV, if_true, true_or, h6, h5, fin3]
    simp [Nat.add_assoc]
  · have e : opB 2 0 0 0 [] s 0 = numB 2 ++ spansB s := by unfold opB; rw [if_neg (by decide), if_pos rfl]; simp [spansB]
    rw [e] at hW ⊢
    have h1 := rN W pre 2 (spansB s ++ tail) 5 (by rw [hW]; simp) (by omega) (by omega)
    have h5 := gS_at W (pre ++ numB 2) tail s hf (by omega) (by rw [hW]; simp)
    unfold rOp
    rw [h1]
    rw [show rOpE W 2 (rOpV 2 ((pre ++ numB 2).length, (0 : Int)) W) = fin3 ⟨2, 0, 0, 0, [], (getS W (pre ++ numB 2).length 0).1, 0⟩ (getS W (pre ++ numB 2).length 0).2 from rfl, h5]
    simp [fin3]
  · have e : opB 3 r n m [] s 0 = numB 3 ++ numB r ++ numB n ++ numB m ++ spansB s := by unfold opB; rw [if_neg (by decide), if_neg (by decide), if_pos rfl]; simp [spansB]
    rw [e] at hW ⊢
    have h1 := rN W pre 3 (numB r ++ (numB n ++ (numB m ++ (spansB s ++ tail)))) 5 (by rw [hW]; simp) (by omega) (by omega)
    have h2 := rN W (pre ++ numB 3) r (numB n ++ (numB m ++ (spansB s ++ tail))) 65535 (by rw [hW]; simp) (by omega) hr
    have h3 := rN W (pre ++ numB 3 ++ numB r) n (numB m ++ (spansB s ++ tail)) 268435456 (by rw [hW]; simp) (by omega) hn
    have h4 := rN W (pre ++ numB 3 ++ numB r ++ numB n) m (spansB s ++ tail) 268435456 (by rw [hW]; simp) (by omega) hm
    have h5 := gS_at W (pre ++ numB 3 ++ numB r ++ numB n ++ numB m) tail s hf (by omega) (by rw [hW]; simp)
    have h6 := r3_of h2 h3 h4
    unfold rOp
    rw [h1]
    rw [show rOpV 3 ((pre ++ numB 3).length, (0 : Int)) W = r3 W (pre ++ numB 3).length 0 from rfl, h6]
    rw [show rOpE W 3 ((r, n, m), (pre ++ numB 3 ++ numB r ++ numB n ++ numB m).length, (0 : Int)) = fin3 ⟨3, r, n, m, [], (getS W (pre ++ numB 3 ++ numB r ++ numB n ++ numB m).length 0).1, 0⟩ (getS W (pre ++ numB 3 ++ numB r ++ numB n ++ numB m).length 0).2 from rfl, h5]
    simp [fin3]
  · have e : opB k 0 0 0 [] [] q = numB k ++ numB q := by unfold opB; rw [if_neg (by omega), if_neg (by omega), if_neg (by omega)]
    rw [e] at hW ⊢
    have h1 := rN W pre k (numB q ++ tail) 5 (by rw [hW]; simp) (by omega) (by omega)
    have h5 := rN W (pre ++ numB k) q tail 268435456 (by rw [hW]; simp) (by omega) hq
    unfold rOp
    rw [h1]
    simp only [rOpE, rOpV]
    rw [if_neg (by omega), if_neg (by omega), if_neg (by omega), h5]
    simp [fin3]
theorem opPutW_call (V : List UInt8) (hV : V.length ≤ 9000000) (k r n m q : Nat) (t : List UInt8) (s : List Sp) (nn : Nat) (hnn : nn = s.length) (hk : k < 100) (hr : r < 65536) (hn : n < 4294967296) (hm : m < 4294967296) (hq : q < 4294967296) (ht : t.length ≤ 1000) (hs : s.length ≤ 1000) (hf : ∀ x ∈ s, fits x) :
    SCall Tryz.prog 62 [.agg (opL k r n m t (.tr nn (encs spC s)) q), wrO V] (.tup []) [.agg (opL k r n m t (.tr nn (encs spC s)) q), wrO (V ++ opB k r n m t s q)] := by
  subst hnn
  have mk : k % 9223372036854775808 = k := Nat.mod_eq_of_lt (by omega)
  have mr : r % 9223372036854775808 = r := Nat.mod_eq_of_lt (by omega)
  have mn : n % 9223372036854775808 = n := Nat.mod_eq_of_lt (by omega)
  have mm : m % 9223372036854775808 = m := Nat.mod_eq_of_lt (by omega)
  have mq : q % 9223372036854775808 = q := Nat.mod_eq_of_lt (by omega)
  have l1 := numB_le 9 k (by omega)
  have l2 := numB_le 9 r (by omega)
  have l3 := numB_le 9 n (by omega)
  have l4 := numB_le 9 m (by omega)
  have g0 : (V ++ numB k).length ≤ 9000010 := by rw [List.length_append]; omega
  have g1 : (V ++ numB k ++ numB r).length ≤ 9000020 := by rw [List.length_append]; omega
  have g2 : (V ++ numB k ++ numB r ++ numB n).length ≤ 9000030 := by rw [List.length_append]; omega
  have g3 : (V ++ numB k ++ numB r ++ numB n ++ numB m).length ≤ 9000040 := by rw [List.length_append]; omega
  unfold opB
  obtain rfl | rfl | rfl | hk4 : k = 1 ∨ k = 2 ∨ k = 3 ∨ (¬ k = 1 ∧ ¬ k = 2 ∧ ¬ k = 3) := by omega
  · rw [if_pos rfl]
    simp only [← List.append_assoc]
    refine SCall.of_body' (TT := TT) (fun k => decide (k < 1)) [false, false] ttok Tryz.func62 rfl (Nat.le_of_ble_eq_true rfl) rfl fun fx hfx => WK.top ?_
    simp only [impl, imp, argT, List.append_nil, List.map_nil, List.map_cons, List.nil_append, List.cons_append, List.length_cons, List.length_nil, show Tryz.f62.ntmps = 54 from rfl, Nat.zero_add, Nat.reduceAdd]
    have FX := And.intro mk (And.intro mr (And.intro mn mm))
    repeat' (first | refine WK.seq ?_ | refine WK.reg ?_ | refine IL.nil ?_ | refine WK.skip ?_ | refine WK.block ?_ | (with_reducible refine IL.wr ?_ ?_; focus exact cW) | refine IL.sgF ttok ?_ | refine IL.nn ?_ | refine IL.cSF ttok ent31 [.own, .bor] true ?_ (hS := by refine wnum_call _ _ ?_ ?_ <;> exact cO) | refine IL.cSF ttok ent85 [.own, .bor] true ?_ (hS := by refine wtext_call _ _ ?_ ?_ <;> exact cO) | refine IL.cSF ttok ent86 [.own, .bor] true ?_ (hS := by refine putW_call _ _ ?_ ?_ ?_ _ ?_ <;> exact cO) | ((first | ((first | refine IL.ag (fun h => ?_) (fun h => ?_) | refine IL.ap (fun h => ?_) (fun h => ?_)); (fail_if_success (focus (simp only [reduceCtorEq] at h)))) | refine WK.cn (fun h => ?_) (fun h => ?_)); all_goals first | (simp only [reduceCtorEq] at h; done) | (simp only [hsA, hsD, hsE, ne_eq] at h; first | done | (exfalso; omega; done) | skip) | skip))
    all_goals try ((first | refine WK.ret ⟨.inr rfl, ?_⟩ | refine ⟨.inl rfl, ?_⟩ | refine ⟨.inl trivial, ?_⟩); refine Fin.o ?_ ?_ (h1 := by first | rfl | (simp only [go_sem, show Tryz.f62.results.toList = [] from rfl, reduceIte] <;> rfl)); rotate_left 1; (focus (first | rfl | skip)); all_goals try with_reducible rfl)
    all_goals rfl
  · rw [if_neg (by decide), if_pos rfl]
    simp only [← List.append_assoc]
    refine SCall.of_body' (TT := TT) (fun k => decide (k < 1)) [false, false] ttok Tryz.func62 rfl (Nat.le_of_ble_eq_true rfl) rfl fun fx hfx => WK.top ?_
    simp only [impl, imp, argT, List.append_nil, List.map_nil, List.map_cons, List.nil_append, List.cons_append, List.length_cons, List.length_nil, show Tryz.f62.ntmps = 54 from rfl, Nat.zero_add, Nat.reduceAdd]
    have FX := mk
    repeat' (first | refine WK.seq ?_ | refine WK.reg ?_ | refine IL.nil ?_ | refine WK.skip ?_ | refine WK.block ?_ | (with_reducible refine IL.wr ?_ ?_; focus exact cW) | refine IL.sgF ttok ?_ | refine IL.nn ?_ | refine IL.cSF ttok ent31 [.own, .bor] true ?_ (hS := by refine wnum_call _ _ ?_ ?_ <;> exact cO) | refine IL.cSF ttok ent85 [.own, .bor] true ?_ (hS := by refine wtext_call _ _ ?_ ?_ <;> exact cO) | refine IL.cSF ttok ent86 [.own, .bor] true ?_ (hS := by refine putW_call _ _ ?_ ?_ ?_ _ ?_ <;> exact cO) | ((first | ((first | refine IL.ag (fun h => ?_) (fun h => ?_) | refine IL.ap (fun h => ?_) (fun h => ?_)); (fail_if_success (focus (simp only [reduceCtorEq] at h)))) | refine WK.cn (fun h => ?_) (fun h => ?_)); all_goals first | (simp only [reduceCtorEq] at h; done) | (simp only [hsA, hsD, hsE, ne_eq] at h; first | done | (exfalso; omega; done) | skip) | skip))
    all_goals try ((first | refine WK.ret ⟨.inr rfl, ?_⟩ | refine ⟨.inl rfl, ?_⟩ | refine ⟨.inl trivial, ?_⟩); refine Fin.o ?_ ?_ (h1 := by first | rfl | (simp only [go_sem, show Tryz.f62.results.toList = [] from rfl, reduceIte] <;> rfl)); rotate_left 1; (focus (first | rfl | skip)); all_goals try with_reducible rfl)
    all_goals rfl
  · rw [if_neg (by decide), if_neg (by decide), if_pos rfl]
    simp only [← List.append_assoc]
    refine SCall.of_body' (TT := TT) (fun k => decide (k < 1)) [false, false] ttok Tryz.func62 rfl (Nat.le_of_ble_eq_true rfl) rfl fun fx hfx => WK.top ?_
    simp only [impl, imp, argT, List.append_nil, List.map_nil, List.map_cons, List.nil_append, List.cons_append, List.length_cons, List.length_nil, show Tryz.f62.ntmps = 54 from rfl, Nat.zero_add, Nat.reduceAdd]
    have FX := And.intro mk (And.intro mr (And.intro mn mm))
    repeat' (first | refine WK.seq ?_ | refine WK.reg ?_ | refine IL.nil ?_ | refine WK.skip ?_ | refine WK.block ?_ | (with_reducible refine IL.wr ?_ ?_; focus exact cW) | refine IL.sgF ttok ?_ | refine IL.nn ?_ | refine IL.cSF ttok ent31 [.own, .bor] true ?_ (hS := by refine wnum_call _ _ ?_ ?_ <;> exact cO) | refine IL.cSF ttok ent85 [.own, .bor] true ?_ (hS := by refine wtext_call _ _ ?_ ?_ <;> exact cO) | refine IL.cSF ttok ent86 [.own, .bor] true ?_ (hS := by refine putW_call _ _ ?_ ?_ ?_ _ ?_ <;> exact cO) | ((first | ((first | refine IL.ag (fun h => ?_) (fun h => ?_) | refine IL.ap (fun h => ?_) (fun h => ?_)); (fail_if_success (focus (simp only [reduceCtorEq] at h)))) | refine WK.cn (fun h => ?_) (fun h => ?_)); all_goals first | (simp only [reduceCtorEq] at h; done) | (simp only [hsA, hsD, hsE, ne_eq] at h; first | done | (exfalso; omega; done) | skip) | skip))
    all_goals try ((first | refine WK.ret ⟨.inr rfl, ?_⟩ | refine ⟨.inl rfl, ?_⟩ | refine ⟨.inl trivial, ?_⟩); refine Fin.o ?_ ?_ (h1 := by first | rfl | (simp only [go_sem, show Tryz.f62.results.toList = [] from rfl, reduceIte] <;> rfl)); rotate_left 1; (focus (first | rfl | skip)); all_goals try with_reducible rfl)
    all_goals rfl
  · rw [if_neg hk4.1, if_neg hk4.2.1, if_neg hk4.2.2]
    simp only [← List.append_assoc]
    refine SCall.of_body' (TT := TT) (fun k => decide (k < 1)) [false, false] ttok Tryz.func62 rfl (Nat.le_of_ble_eq_true rfl) rfl fun fx hfx => WK.top ?_
    simp only [impl, imp, argT, List.append_nil, List.map_nil, List.map_cons, List.nil_append, List.cons_append, List.length_cons, List.length_nil, show Tryz.f62.ntmps = 54 from rfl, Nat.zero_add, Nat.reduceAdd]
    have FX := And.intro mk mq
    repeat' (first | refine WK.seq ?_ | refine WK.reg ?_ | refine IL.nil ?_ | refine WK.skip ?_ | refine WK.block ?_ | (with_reducible refine IL.wr ?_ ?_; focus exact cW) | refine IL.sgF ttok ?_ | refine IL.nn ?_ | refine IL.cSF ttok ent31 [.own, .bor] true ?_ (hS := by refine wnum_call _ _ ?_ ?_ <;> exact cO) | refine IL.cSF ttok ent85 [.own, .bor] true ?_ (hS := by refine wtext_call _ _ ?_ ?_ <;> exact cO) | refine IL.cSF ttok ent86 [.own, .bor] true ?_ (hS := by refine putW_call _ _ ?_ ?_ ?_ _ ?_ <;> exact cO) | ((first | ((first | refine IL.ag (fun h => ?_) (fun h => ?_) | refine IL.ap (fun h => ?_) (fun h => ?_)); (fail_if_success (focus (simp only [reduceCtorEq] at h)))) | refine WK.cn (fun h => ?_) (fun h => ?_)); all_goals first | (simp only [reduceCtorEq] at h; done) | (simp only [hsA, hsD, hsE, ne_eq] at h; first | done | (exfalso; omega; done) | skip) | skip))
    all_goals try ((first | refine WK.ret ⟨.inr rfl, ?_⟩ | refine ⟨.inl rfl, ?_⟩ | refine ⟨.inl trivial, ?_⟩); refine Fin.o ?_ ?_ (h1 := by first | rfl | (simp only [go_sem, show Tryz.f62.results.toList = [] from rfl, reduceIte] <;> rfl)); rotate_left 1; (focus (first | rfl | skip)); all_goals try with_reducible rfl)
    all_goals rfl
end Go.Proofs.YtclhjcbnpdlgbaaGreatDoor
/- package copyistmade: the program's things as the document has them. -/
namespace Go.Proofs.YtclhjcbnpdlgbaaGreatDoor
open Go Go.Lift
set_option maxHeartbeats 4000000
set_option linter.unusedSimpArgs false
set_option linter.unusedVariables false
attribute [local irreducible] WK IL IP IG IW DW

def opC (v : OpV) : List IV := opL v.k v.r v.n v.m v.t (.tr v.s.length (encs spC v.s)) v.q
instance : CellsT opC 7 := ⟨fun _ => rfl, fun _ => rfl⟩
theorem opC_length (a : OpV) : (opC a).length = 7 := rfl
abbrev txL (r s c u : Int) (x : IV) : List IV := [.v (.int .u16 r), .v (.int .u32 s), .v (.int .u64 c), .v (.int .i64 u), x]
theorem madeSpans_call (l : List Sp) (nn : Nat) (hnn : nn = l.length) (hl : l.length * 16 ≤ 140737488355328) : SCall Tryz.prog 80 [.tr nn (encs spC l)] (.own 133 l.length true (encs spC l)) [.tr nn (encs spC l)] := by
  subst hnn
  refine SCall.of_body' (TT := TT) (fun _ => false) [false] ttok Tryz.func80 rfl (Nat.le_of_ble_eq_true rfl) rfl fun fx hfx => WK.top ?_
  simp only [impl, imp, argT, List.append_nil, List.map_nil, List.nil_append, show Tryz.f80.ntmps = 22 from rfl, Nat.zero_add, Nat.reduceAdd]
  repeat' (first | refine WK.seq ?_ | refine WK.reg ?_ | refine IL.nil ?_ | refine WK.skip ?_ | refine WK.block ?_ | refine WK.exit_here ?_ | refine WK.e1 ?_ | refine WK.e2 ?_ | (with_reducible refine IL.wr ?_ ?_; focus exact cW) | refine IL.sg ttok ?_ | (refine WK.cn (fun h => ?_) (fun h => ?_); all_goals first | (simp only [reduceCtorEq] at h; done) | (simp only [hsA, hsD, hsE, ne_eq] at h; first | done | (exfalso; omega; done) | skip) | skip))
  refine WK.forS l.length (fun k => True) (fun k => ⟨22, [(3, .sl 0 0 0 (l.take k).length), (6, .tr l.length (encs spC l)), (7, .v (.int .i64 l.length)), (8, .v (.int .i64 k))], [some ⟨true, 133, (l.take k).length, true, encs spC (l.take k), 0, false⟩]⟩) ⟨trivial, ?_⟩ (fun k hk ho => ?_) (fun ho => ?_)
  · exact Weak.renS [1] hfx rfl ⟨rfl, rfl, rfl, rfl, trivial⟩ ⟨⟨_, rfl, rfl⟩, trivial⟩ rfl
  · have hx : l[k]? = some l[k] := List.getElem?_eq_getElem hk
    have hle : k * 3 + 3 ≤ l.length * 3 := by omega
    have hat : ((encs spC l).drop (k * 3)).take 3 = [.v (.int .u16 l[k].1), .v (.int .u32 l[k].2.1), .v (.int .i64 l[k].2.2)] := encs_at spC_length hx
    have hne : encs spC l ≠ [] := encs_ne spC_length (by decide) hx
    have htl : (l.take k).length = k := by rw [List.length_take]; omega
    have htk : l.take (k + 1) = l.take k ++ [l[k]] := by rw [List.take_add_one, hx]; rfl
    have hln : (l.take (k + 1)).length = (l.take k).length + 1 := by rw [List.length_take, List.length_take]; omega
    have hcs : encs spC (l.take k) ++ [.v (.int .u16 l[k].1), .v (.int .u32 l[k].2.1), .v (.int .i64 l[k].2.2)] = encs spC (l.take (k + 1)) := by rw [htk, ← encs_snoc]; rfl
    have FX := And.intro hat hle
    repeat' (first | refine WK.seq ?_ | refine WK.reg ?_ | refine IL.nil ?_ | refine WK.skip ?_ | refine WK.block ?_ | refine WK.exit_here ?_ | refine WK.e1 ?_ | refine WK.e2 ?_ | (with_reducible refine IL.wr ?_ ?_; focus exact cW) | refine IL.sgF ttok ?_ | (refine WK.cn (fun h => ?_) (fun h => ?_); all_goals first | (simp only [reduceCtorEq] at h; done) | (simp only [hsA, hsD, hsE, ne_eq] at h; first | done | (exfalso; omega; done) | skip) | skip))
    all_goals first | (refine Weak.renS [0] hfx rfl ?_ ?_ rfl <;> (simp only [go_sem, reduceIte, exists_eq_left', exists_eq_left, Blk.mk.injEq, hln, hcs] <;> (try and_intros) <;> first | rfl | omega)) | (refine ⟨?_, ?_⟩; rotate_left 1; (focus (refine Weak.renS [0] hfx rfl ?_ ?_ rfl <;> (simp only [go_sem, reduceIte, exists_eq_left', exists_eq_left, Blk.mk.injEq, hln, hcs] <;> (try and_intros) <;> first | rfl | omega))); first | trivial | assumption | omega | grind) | grind
  · repeat' (first | refine WK.seq ?_ | refine WK.reg ?_ | refine IL.nil ?_ | refine WK.skip ?_ | refine WK.block ?_ | refine WK.exit_here ?_ | refine WK.e1 ?_ | refine WK.e2 ?_ | (with_reducible refine IL.wr ?_ ?_; focus exact cW) | refine IL.sg ttok ?_ | (refine WK.cn (fun h => ?_) (fun h => ?_); all_goals first | (simp only [reduceCtorEq] at h; done) | (simp only [hsA, hsD, hsE, ne_eq] at h; first | done | (exfalso; omega; done) | skip) | skip))
    all_goals try ((first | refine WK.ret ⟨.inr rfl, ?_⟩ | refine ⟨.inl rfl, ?_⟩ | refine ⟨.inl trivial, ?_⟩); refine Fin.o ?_ ?_ (h1 := by first | rfl | (simp only [go_sem, show Tryz.f80.results.toList = [.tmp 2] from rfl, reduceIte] <;> rfl)); rotate_left 1; (focus (first | rfl | skip)); all_goals try with_reducible rfl)
theorem madeOp_call (k r n m q : Int) (t : List UInt8) (s : List Sp) (nn : Nat) (hnn : nn = s.length) (hl : s.length * 16 ≤ 140737488355328) : SCall Tryz.prog 60 [.agg (opL k r n m t (.tr nn (encs spC s)) q)] (.ago (opL k r n m t (.own 133 s.length true (encs spC s)) q)) [.agg (opL k r n m t (.tr nn (encs spC s)) q)] := by
  subst hnn
  refine SCall.of_body' (TT := TT) (fun _ => false) [false] ttok Tryz.func60 rfl (Nat.le_of_ble_eq_true rfl) rfl fun fx hfx => WK.top ?_
  simp only [impl, imp, argT, List.append_nil, List.map_nil, List.nil_append, show Tryz.f60.ntmps = 17 from rfl, Nat.zero_add, Nat.reduceAdd]
  repeat' (first | refine WK.seq ?_ | refine WK.reg ?_ | refine IL.nil ?_ | refine WK.drawnS (id := 1) mixed [] [10, 14] [0, 0, 0, 0, 0, 0, 0, 0, 0, 0, 0, 0, 0, 1, 1] [1, 1, 1, 1, 1, 1, 1, 1, 0, 0, 0, 1, 1, 1, 1] (by decide +kernel) ?_ | refine DW.nil ?_ | (with_reducible refine IL.wr ?_ ?_; focus exact cW) | (with_reducible refine DW.wr ?_ ?_; focus exact cW) | refine IL.sg ttok ?_ | refine DW.re ttok ?_ | refine DW.rm ttok ?_ | refine DW.bk ttok ?_ | refine DW.cS ttok ent80 [.bor] true ?_ (hS := by refine madeSpans_call _ _ ?_ ?_ <;> exact cO))
  all_goals try ((first | refine WK.ret ⟨.inr rfl, ?_⟩ | refine ⟨.inl rfl, ?_⟩ | refine ⟨.inl trivial, ?_⟩); refine Fin.o ?_ ?_ (h1 := by first | rfl | (simp only [go_sem, show Tryz.f60.results.toList = [.cell 2 71] from rfl, reduceIte] <;> rfl)); rotate_left 1; (focus (first | rfl | skip)); all_goals try with_reducible rfl)
  all_goals rfl
theorem madeOp_frz (k r n m q : Int) (t : List UInt8) (s : List Sp) (nn : Nat) (hnn : nn = s.length) (hl : s.length * 16 ≤ 140737488355328) : SCall Tryz.prog 60 [.agg (opL k r n m t (.tr nn (encs spC s)) q)] (.agg (opL k r n m t (.tr s.length (encs spC s)) q)) [.agg (opL k r n m t (.tr nn (encs spC s)) q)] := (madeOp_call k r n m q t s nn hnn hl).frz rfl
theorem sameOp_call (k r n m q : Int) (t : List UInt8) (s : List Sp) (nn n2 : Nat) (hnn : nn = s.length) (hn2 : n2 = s.length) (hl : s.length * 16 ≤ 140737488355328) : SCall Tryz.prog 73 [.agg (opL k r n m t (.tr nn (encs spC s)) q), .agg (opL k r n m t (.tr n2 (encs spC s)) q)] (.v (.bool true)) [.agg (opL k r n m t (.tr nn (encs spC s)) q), .agg (opL k r n m t (.tr n2 (encs spC s)) q)] := by
  subst hnn; subst hn2
  refine SCall.of_body' (TT := TT) (fun _ => false) [false, false] ttok Tryz.func73 rfl (Nat.le_of_ble_eq_true rfl) rfl fun fx hfx => WK.top ?_
  simp only [impl, imp, argT, List.append_nil, List.map_nil, List.nil_append, show Tryz.f73.ntmps = 66 from rfl, Nat.zero_add, Nat.reduceAdd]
  repeat' (first | refine WK.seq ?_ | refine WK.reg ?_ | refine IL.nil ?_ | refine WK.skip ?_ | refine WK.block ?_ | refine WK.exit_here ?_ | refine WK.e1 ?_ | refine WK.e2 ?_ | refine WK.drawnS (id := 6) mixed [] [] [] [] (by decide +kernel) ?_ | refine DW.nil ?_ | (with_reducible refine IL.wr ?_ ?_; focus exact cW) | (with_reducible refine DW.wr ?_ ?_; focus exact cW) | refine IL.sg ttok ?_ | refine IL.nn ?_ | refine DW.re ttok ?_ | refine DW.rm ttok ?_ | ((first | ((first | refine IL.ag (fun h => ?_) (fun h => ?_) | refine IL.ap (fun h => ?_) (fun h => ?_)); (fail_if_success (focus (simp only [reduceCtorEq] at h)))) | refine WK.cn (fun h => ?_) (fun h => ?_)); all_goals first | (simp only [reduceCtorEq] at h; done) | (simp only [hsA, hsD, hsE, ne_eq] at h; first | done | (exfalso; omega; done) | skip) | skip))
  refine WK.forS s.length (fun k' => True) (fun k' => ⟨66, [(2, .ptr 0 0 0), (3, .ptr 1 0 0), (50, .v (.int .i64 s.length)), (51, .v (.int .i64 k'))], [some ⟨false, 0, 1, false, opL k r n m t (.tr s.length (encs spC s)) q, 0, false⟩, some ⟨false, 0, 1, false, opL k r n m t (.tr s.length (encs spC s)) q, 0, false⟩]⟩) ⟨trivial, ?_⟩ (fun k' hk ho => ?_) (fun ho => ?_)
  · (refine Weak.renS [0, 1] hfx rfl ?_ ?_ rfl <;> (simp only [go_sem, reduceIte, exists_eq_left', exists_eq_left, Blk.mk.injEq, opL] <;> (try and_intros) <;> first | rfl | omega))
  · have hx : s[k']? = some s[k'] := List.getElem?_eq_getElem hk
    have hle : k' * 3 + 3 ≤ s.length * 3 := by omega
    have hat : ((encs spC s).drop (k' * 3)).take 3 = [.v (.int .u16 s[k'].1), .v (.int .u32 s[k'].2.1), .v (.int .i64 s[k'].2.2)] := encs_at spC_length hx
    have hne : encs spC s ≠ [] := encs_ne spC_length (by decide) hx
    have FX := And.intro hat hle
    repeat' (first | refine WK.seq ?_ | refine WK.reg ?_ | refine IL.nil ?_ | refine WK.skip ?_ | refine WK.block ?_ | refine WK.exit_here ?_ | refine WK.e1 ?_ | refine WK.e2 ?_ | refine WK.drawnS (id := 6) mixed [] [] [] [] (by decide +kernel) ?_ | refine DW.nil ?_ | (with_reducible refine IL.wr ?_ ?_; focus exact cW) | (with_reducible refine DW.wr ?_ ?_; focus exact cW) | refine IL.sgF ttok ?_ | refine IL.nn ?_ | refine DW.reF ttok ?_ | refine DW.rmF ttok ?_ | ((first | ((first | refine IL.ag (fun h => ?_) (fun h => ?_) | refine IL.ap (fun h => ?_) (fun h => ?_)); (fail_if_success (focus (simp only [reduceCtorEq] at h)))) | refine WK.cn (fun h => ?_) (fun h => ?_)); all_goals first | (simp only [reduceCtorEq] at h; done) | (simp only [hsA, hsD, hsE, ne_eq] at h; first | done | (exfalso; omega; done) | skip) | skip))
    all_goals try ((first | refine WK.ret ⟨.inr rfl, ?_⟩ | refine ⟨.inl rfl, ?_⟩ | refine ⟨.inl trivial, ?_⟩); refine Fin.o ?_ ?_ (h1 := by first | rfl | (simp only [go_sem, show Tryz.f73.results.toList = [.tmp 4] from rfl, reduceIte] <;> rfl)); rotate_left 1; (focus (first | rfl | skip)); all_goals try with_reducible rfl)
    all_goals first | (refine Weak.renS [0, 1] hfx rfl ?_ ?_ rfl <;> (simp only [go_sem, reduceIte, exists_eq_left', exists_eq_left, Blk.mk.injEq, opL] <;> (try and_intros) <;> first | rfl | omega)) | (refine ⟨?_, ?_⟩; rotate_left 1; (focus (refine Weak.renS [0, 1] hfx rfl ?_ ?_ rfl <;> (simp only [go_sem, reduceIte, exists_eq_left', exists_eq_left, Blk.mk.injEq, opL] <;> (try and_intros) <;> first | rfl | omega))); first | trivial | assumption | omega | grind) | grind
  · repeat' (first | refine WK.seq ?_ | refine WK.reg ?_ | refine IL.nil ?_ | refine WK.skip ?_ | refine WK.block ?_ | refine WK.exit_here ?_ | refine WK.e1 ?_ | refine WK.e2 ?_ | refine WK.drawnS (id := 6) mixed [] [] [] [] (by decide +kernel) ?_ | refine DW.nil ?_ | (with_reducible refine IL.wr ?_ ?_; focus exact cW) | (with_reducible refine DW.wr ?_ ?_; focus exact cW) | refine IL.sg ttok ?_ | refine IL.nn ?_ | refine DW.re ttok ?_ | refine DW.rm ttok ?_ | ((first | ((first | refine IL.ag (fun h => ?_) (fun h => ?_) | refine IL.ap (fun h => ?_) (fun h => ?_)); (fail_if_success (focus (simp only [reduceCtorEq] at h)))) | refine WK.cn (fun h => ?_) (fun h => ?_)); all_goals first | (simp only [reduceCtorEq] at h; done) | (simp only [hsA, hsD, hsE, ne_eq] at h; first | done | (exfalso; omega; done) | skip) | skip))
    all_goals try ((first | refine WK.ret ⟨.inr rfl, ?_⟩ | refine ⟨.inl rfl, ?_⟩ | refine ⟨.inl trivial, ?_⟩); refine Fin.o ?_ ?_ (h1 := by first | rfl | (simp only [go_sem, show Tryz.f73.results.toList = [.tmp 4] from rfl, reduceIte] <;> rfl)); rotate_left 1; (focus (first | rfl | skip)); all_goals try with_reducible rfl)
theorem madeTxn_call (r s c u : Int) (ops : List OpV) (nn : Nat) (hnn : nn = ops.length) (hl : ops.length * 72 ≤ 140737488355328) (hs : ∀ o ∈ ops, o.s.length * 16 ≤ 140737488355328) : SCall Tryz.prog 28 [.agg (txL r s c u (.tr nn (encs opC ops)))] (.ago (txL r s c u (.own 71 ops.length false (encs opC ops)))) [.agg (txL r s c u (.tr nn (encs opC ops)))] := by
  subst hnn
  refine SCall.of_body' (TT := TT) (fun _ => false) [false] ttok Tryz.func28 rfl (Nat.le_of_ble_eq_true rfl) rfl fun fx hfx => WK.top ?_
  simp only [impl, imp, argT, List.append_nil, List.map_nil, List.nil_append, show Tryz.f28.ntmps = 31 from rfl, Nat.zero_add, Nat.reduceAdd]
  repeat' (first | (refine WK.empRow (σ' := ?_) ttok 4 4 71 rfl rfl rfl rfl ?_ ?_; rotate_left 1; (focus (simp only [go_sem, nilRow, List.set_cons_zero, List.set_cons_succ, List.cons_append, List.nil_append, reduceIte]; rfl))) | refine WK.seq ?_ | refine WK.reg ?_ | refine IL.nil ?_ | refine WK.skip ?_ | refine WK.block ?_ | refine WK.exit_here ?_ | refine WK.e1 ?_ | refine WK.e2 ?_ | refine WK.drawnS (id := 5) mixed [] [3, 4, 5, 7] [0, 0, 0, 0, 1, 2, 3, 3] [2, 2, 0, 0, 1, 2, 3, 3] (by decide +kernel) ?_ | refine DW.nil ?_ | (with_reducible refine IL.wr ?_ ?_; focus exact cW) | (with_reducible refine DW.wr ?_ ?_; focus exact cW) | refine IL.sg ttok ?_ | refine DW.re ttok ?_ | refine DW.rm ttok ?_ | refine DW.bk ttok ?_ | refine DW.cS ttok ent60 [.bor] false ?_ (hS := by refine madeOp_frz _ _ _ _ _ _ _ _ ?_ ?_ <;> exact cO) | (refine WK.cn (fun h => ?_) (fun h => ?_); all_goals first | (simp only [reduceCtorEq] at h; done) | (simp only [hsA, hsD, hsE, ne_eq] at h; first | done | (exfalso; omega; done) | skip) | skip))
  refine WK.forS ops.length (fun k' => True) (fun k' => ⟨31, [(2, .ptr 1 0 0), (3, .ptr 2 0 0), (16, .tr ops.length (encs opC ops)), (17, .v (.int .i64 ops.length)), (18, .v (.int .i64 k'))], [some ⟨true, 71, 0, false, [], 0, false⟩, some ⟨false, 0, 1, false, txL 0 0 0 0 (.sl 0 0 0 0), 0, false⟩, some ⟨false, 0, 1, false, txL r s c u (.sl 3 0 0 (ops.take k').length), 0, false⟩, some ⟨true, 71, (ops.take k').length, false, encs opC (ops.take k'), 0, false⟩]⟩) ⟨trivial, ?_⟩ (fun k' hk ho => ?_) (fun ho => ?_)
  · (refine Weak.renS [1, 2, 4, 5] hfx rfl ?_ ?_ rfl <;> (simp only [go_sem, reduceIte, exists_eq_left', exists_eq_left, Blk.mk.injEq, txL, List.take_zero, List.length_nil, encs_nil] <;> (try and_intros) <;> first | rfl | omega))
  · have hx : ops[k']? = some ops[k'] := List.getElem?_eq_getElem hk
    have hsk := hs _ (List.getElem_mem hk)
    have htk : ops.take (k' + 1) = ops.take k' ++ [ops[k']] := by rw [List.take_add_one, hx]; rfl
    have hln : (ops.take (k' + 1)).length = (ops.take k').length + 1 := by rw [List.length_take, List.length_take]; omega
    have htl : (ops.take k').length = k' := by rw [List.length_take]; omega
    have hle : k' * 7 + 7 ≤ ops.length * 7 := by omega
    have hne : encs opC ops ≠ [] := encs_ne opC_length (by decide) hx
    have hcs : encs opC (ops.take k') ++ opC ops[k'] = encs opC (ops.take (k' + 1)) := by rw [htk, ← encs_snoc]
    generalize ops[k'] = o at *
    obtain ⟨ok, or, on, om, ot, os, oq⟩ := o
    have hat : ((encs opC ops).drop (k' * 7)).take 7 = [.v (.int .i64 ok), .v (.int .u16 or), .v (.int .u32 on), .v (.int .u32 om), .v (.string ⟨ot.toArray⟩), .tr os.length (encs spC os), .v (.int .u32 oq)] := encs_at opC_length hx
    rw [show opC ⟨ok, or, on, om, ot, os, oq⟩ = [.v (.int .i64 ok), .v (.int .u16 or), .v (.int .u32 on), .v (.int .u32 om), .v (.string ⟨ot.toArray⟩), .tr os.length (encs spC os), .v (.int .u32 oq)] from rfl] at hcs
    simp only at hsk
    have FX := And.intro hat hle
    repeat' (first | refine WK.seq ?_ | refine WK.reg ?_ | refine IL.nil ?_ | refine WK.skip ?_ | refine WK.block ?_ | refine WK.exit_here ?_ | refine WK.e1 ?_ | refine WK.e2 ?_ | refine WK.drawnS (id := 5) mixed [] [3, 4, 5, 7] [0, 0, 0, 0, 1, 2, 3, 3] [2, 2, 0, 0, 1, 2, 3, 3] (by decide +kernel) ?_ | refine DW.nil ?_ | (with_reducible refine IL.wr ?_ ?_; focus exact cW) | (with_reducible refine DW.wr ?_ ?_; focus exact cW) | refine IL.sgF ttok ?_ | refine DW.reF ttok ?_ | refine DW.rmF ttok ?_ | refine DW.bkF ttok ?_ | refine DW.cSF ttok ent60 [.bor] false ?_ (hS := by refine madeOp_frz _ _ _ _ _ _ _ _ ?_ ?_ <;> exact cO) | (refine WK.cn (fun h => ?_) (fun h => ?_); all_goals first | (simp only [reduceCtorEq] at h; done) | (simp only [hsA, hsD, hsE, ne_eq] at h; first | done | (exfalso; omega; done) | skip) | skip))
    all_goals first | (refine Weak.renS [0, 1, 2, 3] hfx rfl ?_ ?_ rfl <;> (simp only [go_sem, reduceIte, exists_eq_left', exists_eq_left, Blk.mk.injEq, hln, hcs, txL] <;> (try and_intros) <;> first | rfl | omega)) | (refine ⟨?_, ?_⟩; rotate_left 1; (focus (refine Weak.renS [0, 1, 2, 3] hfx rfl ?_ ?_ rfl <;> (simp only [go_sem, reduceIte, exists_eq_left', exists_eq_left, Blk.mk.injEq, hln, hcs, txL] <;> (try and_intros) <;> first | rfl | omega))); first | trivial | assumption | omega | grind) | grind
  · repeat' (first | refine WK.seq ?_ | refine WK.reg ?_ | refine IL.nil ?_ | refine WK.skip ?_ | refine WK.block ?_ | refine WK.exit_here ?_ | refine WK.e1 ?_ | refine WK.e2 ?_ | refine WK.drawnS (id := 5) mixed [] [3, 4, 5, 7] [0, 0, 0, 0, 1, 2, 3, 3] [2, 2, 0, 0, 1, 2, 3, 3] (by decide +kernel) ?_ | refine DW.nil ?_ | (with_reducible refine IL.wr ?_ ?_; focus exact cW) | (with_reducible refine DW.wr ?_ ?_; focus exact cW) | refine IL.sg ttok ?_ | refine DW.re ttok ?_ | refine DW.rm ttok ?_ | refine DW.bk ttok ?_ | refine DW.cS ttok ent60 [.bor] false ?_ (hS := by refine madeOp_frz _ _ _ _ _ _ _ _ ?_ ?_ <;> exact cO) | (refine WK.cn (fun h => ?_) (fun h => ?_); all_goals first | (simp only [reduceCtorEq] at h; done) | (simp only [hsA, hsD, hsE, ne_eq] at h; first | done | (exfalso; omega; done) | skip) | skip))
    all_goals try ((first | refine WK.ret ⟨.inr rfl, ?_⟩ | refine ⟨.inl rfl, ?_⟩ | refine ⟨.inl trivial, ?_⟩); refine Fin.o ?_ ?_ (h1 := by first | rfl | (simp only [go_sem, show Tryz.f28.results.toList = [.cell 2 37] from rfl, reduceIte] <;> rfl)); rotate_left 1; (focus (first | rfl | skip)); all_goals try with_reducible rfl)
theorem sameTxn_call (r s c u : Int) (ops : List OpV) (nn n2 : Nat) (hnn : nn = ops.length) (hn2 : n2 = ops.length) (hl : ops.length * 72 ≤ 140737488355328) (hs : ∀ o ∈ ops, o.s.length * 16 ≤ 140737488355328) : SCall Tryz.prog 49 [.agg (txL r s c u (.tr nn (encs opC ops))), .agg (txL r s c u (.tr n2 (encs opC ops)))] (.v (.bool true)) [.agg (txL r s c u (.tr nn (encs opC ops))), .agg (txL r s c u (.tr n2 (encs opC ops)))] := by
  subst hnn; subst hn2
  refine SCall.of_body' (TT := TT) (fun _ => false) [false, false] ttok Tryz.func49 rfl (Nat.le_of_ble_eq_true rfl) rfl fun fx hfx => WK.top ?_
  simp only [impl, imp, argT, List.append_nil, List.map_nil, List.nil_append, show Tryz.f49.ntmps = 60 from rfl, Nat.zero_add, Nat.reduceAdd]
  repeat' (first | refine WK.seq ?_ | refine WK.reg ?_ | refine IL.nil ?_ | refine WK.skip ?_ | refine WK.block ?_ | refine WK.exit_here ?_ | refine WK.e1 ?_ | refine WK.e2 ?_ | refine WK.drawnS (id := 6) mixed [] [10] [0, 0, 0, 0, 0, 0, 0, 0, 0, 0, 0, 1] [0, 0, 0, 0, 0, 0, 0, 0, 0, 0, 0, 1] (by decide +kernel) ?_ | refine DW.nil ?_ | (with_reducible refine IL.wr ?_ ?_; focus exact cW) | (with_reducible refine DW.wr ?_ ?_; focus exact cW) | refine IL.sg ttok ?_ | refine IL.nn ?_ | refine DW.re ttok ?_ | refine DW.rm ttok ?_ | refine DW.cS ttok ent73 [.bor, .bor] true ?_ (hS := by refine sameOp_call _ _ _ _ _ _ _ _ _ ?_ ?_ ?_ <;> exact cO) | ((first | ((first | refine IL.ag (fun h => ?_) (fun h => ?_) | refine IL.ap (fun h => ?_) (fun h => ?_)); (fail_if_success (focus (simp only [reduceCtorEq] at h)))) | refine WK.cn (fun h => ?_) (fun h => ?_)); all_goals first | (simp only [reduceCtorEq] at h; done) | (simp only [hsA, hsD, hsE, ne_eq] at h; first | done | (exfalso; omega; done) | skip) | skip))
  refine WK.forS ops.length (fun k' => True) (fun k' => ⟨60, [(2, .ptr 0 0 0), (3, .ptr 1 0 0), (43, .v (.int .i64 ops.length)), (44, .v (.int .i64 k'))], [some ⟨false, 0, 1, false, txL r s c u (.tr ops.length (encs opC ops)), 0, false⟩, some ⟨false, 0, 1, false, txL r s c u (.tr ops.length (encs opC ops)), 0, false⟩]⟩) ⟨trivial, ?_⟩ (fun k' hk ho => ?_) (fun ho => ?_)
  · (refine Weak.renS [0, 1] hfx rfl ?_ ?_ rfl <;> (simp only [go_sem, reduceIte, exists_eq_left', exists_eq_left, Blk.mk.injEq, txL] <;> (try and_intros) <;> first | rfl | omega))
  · have hx : ops[k']? = some ops[k'] := List.getElem?_eq_getElem hk
    have hsk := hs _ (List.getElem_mem hk)
    have hle : k' * 7 + 7 ≤ ops.length * 7 := by omega
    have hne : encs opC ops ≠ [] := encs_ne opC_length (by decide) hx
    generalize ops[k'] = o at *
    obtain ⟨ok, or, on, om, ot, os, oq⟩ := o
    have hat : ((encs opC ops).drop (k' * 7)).take 7 = [.v (.int .i64 ok), .v (.int .u16 or), .v (.int .u32 on), .v (.int .u32 om), .v (.string ⟨ot.toArray⟩), .tr os.length (encs spC os), .v (.int .u32 oq)] := encs_at opC_length hx
    simp only at hsk
    have FX := And.intro hat hle
    repeat' (first | refine WK.seq ?_ | refine WK.reg ?_ | refine IL.nil ?_ | refine WK.skip ?_ | refine WK.block ?_ | refine WK.exit_here ?_ | refine WK.e1 ?_ | refine WK.e2 ?_ | refine WK.drawnS (id := 6) mixed [] [10] [0, 0, 0, 0, 0, 0, 0, 0, 0, 0, 0, 1] [0, 0, 0, 0, 0, 0, 0, 0, 0, 0, 0, 1] (by decide +kernel) ?_ | refine DW.nil ?_ | (with_reducible refine IL.wr ?_ ?_; focus exact cW) | (with_reducible refine DW.wr ?_ ?_; focus exact cW) | refine IL.sgF ttok ?_ | refine IL.nn ?_ | refine DW.reF ttok ?_ | refine DW.rmF ttok ?_ | refine DW.cSF ttok ent73 [.bor, .bor] true ?_ (hS := by refine sameOp_call _ _ _ _ _ _ _ _ _ ?_ ?_ ?_ <;> exact cO) | ((first | ((first | refine IL.ag (fun h => ?_) (fun h => ?_) | refine IL.ap (fun h => ?_) (fun h => ?_)); (fail_if_success (focus (simp only [reduceCtorEq] at h)))) | refine WK.cn (fun h => ?_) (fun h => ?_)); all_goals first | (simp only [reduceCtorEq] at h; done) | (simp only [hsA, hsD, hsE, ne_eq] at h; first | done | (exfalso; omega; done) | skip) | skip))
    all_goals try ((first | refine WK.ret ⟨.inr rfl, ?_⟩ | refine ⟨.inl rfl, ?_⟩ | refine ⟨.inl trivial, ?_⟩); refine Fin.o ?_ ?_ (h1 := by first | rfl | (simp only [go_sem, show Tryz.f49.results.toList = [.tmp 4] from rfl, reduceIte] <;> rfl)); rotate_left 1; (focus (first | rfl | skip)); all_goals try with_reducible rfl)
    all_goals first | (refine Weak.renS [0, 1] hfx rfl ?_ ?_ rfl <;> (simp only [go_sem, reduceIte, exists_eq_left', exists_eq_left, Blk.mk.injEq, txL] <;> (try and_intros) <;> first | rfl | omega)) | (refine ⟨?_, ?_⟩; rotate_left 1; (focus (refine Weak.renS [0, 1] hfx rfl ?_ ?_ rfl <;> (simp only [go_sem, reduceIte, exists_eq_left', exists_eq_left, Blk.mk.injEq, txL] <;> (try and_intros) <;> first | rfl | omega))); first | trivial | assumption | omega | grind) | grind
  · repeat' (first | refine WK.seq ?_ | refine WK.reg ?_ | refine IL.nil ?_ | refine WK.skip ?_ | refine WK.block ?_ | refine WK.exit_here ?_ | refine WK.e1 ?_ | refine WK.e2 ?_ | refine WK.drawnS (id := 6) mixed [] [10] [0, 0, 0, 0, 0, 0, 0, 0, 0, 0, 0, 1] [0, 0, 0, 0, 0, 0, 0, 0, 0, 0, 0, 1] (by decide +kernel) ?_ | refine DW.nil ?_ | (with_reducible refine IL.wr ?_ ?_; focus exact cW) | (with_reducible refine DW.wr ?_ ?_; focus exact cW) | refine IL.sg ttok ?_ | refine IL.nn ?_ | refine DW.re ttok ?_ | refine DW.rm ttok ?_ | refine DW.cS ttok ent73 [.bor, .bor] true ?_ (hS := by refine sameOp_call _ _ _ _ _ _ _ _ _ ?_ ?_ ?_ <;> exact cO) | ((first | ((first | refine IL.ag (fun h => ?_) (fun h => ?_) | refine IL.ap (fun h => ?_) (fun h => ?_)); (fail_if_success (focus (simp only [reduceCtorEq] at h)))) | refine WK.cn (fun h => ?_) (fun h => ?_)); all_goals first | (simp only [reduceCtorEq] at h; done) | (simp only [hsA, hsD, hsE, ne_eq] at h; first | done | (exfalso; omega; done) | skip) | skip))
    all_goals try ((first | refine WK.ret ⟨.inr rfl, ?_⟩ | refine ⟨.inl rfl, ?_⟩ | refine ⟨.inl trivial, ?_⟩); refine Fin.o ?_ ?_ (h1 := by first | rfl | (simp only [go_sem, show Tryz.f49.results.toList = [.tmp 4] from rfl, reduceIte] <;> rfl)); rotate_left 1; (focus (first | rfl | skip)); all_goals try with_reducible rfl)
end Go.Proofs.YtclhjcbnpdlgbaaGreatDoor
/- A transaction written, by the program and by the document. -/
namespace Go.Proofs.YtclhjcbnpdlgbaaGreatDoor
open Go Go.Lift
set_option maxHeartbeats 4000000
set_option linter.unusedSimpArgs false
set_option linter.unusedVariables false
attribute [local irreducible] WK IL IP IG IW DW

theorem opB_len (k r n m q : Nat) (t : List UInt8) (s : List Sp) (hk : k < 100) (hr : r < 65536) (hn : n < 4294967296) (hm : m < 4294967296) (hq : q < 4294967296) (ht : t.length ≤ 1000) (hs : s.length ≤ 60) (hf : ∀ x ∈ s, fits x) : (opB k r n m t s q).length ≤ 5000 := by
  have l1 := numB_le 9 k (by omega)
  have l2 := numB_le 9 r (by omega)
  have l3 := numB_le 9 n (by omega)
  have l4 := numB_le 9 m (by omega)
  have l5 := numB_le 9 q (by omega)
  have l6 := numB_le 9 s.length (by omega)
  have l7 := numB_le 9 t.length (by omega)
  have l8 := spsB_len s hf
  unfold opB
  split
  · simp only [List.length_append]; omega
  · split
    · simp only [List.length_append]; omega
    · split
      · simp only [List.length_append]; omega
      · simp only [List.length_append]; omega
theorem opB_lenL (k r n m q : Nat) (t : List UInt8) (s : List Sp) (hk : k < 100) (hr : r < 65536) (hn : n < 4294967296) (hm : m < 4294967296) (hq : q < 4294967296) (ht : t.length ≤ 1000) (hs : s.length ≤ 1000) (hf : ∀ x ∈ s, fits x) : (opB k r n m t s q).length ≤ 40000 := by
  have l1 := numB_le 9 k (by omega)
  have l2 := numB_le 9 r (by omega)
  have l3 := numB_le 9 n (by omega)
  have l4 := numB_le 9 m (by omega)
  have l5 := numB_le 9 q (by omega)
  have l6 := numB_le 9 s.length (by omega)
  have l7 := numB_le 9 t.length (by omega)
  have l8 := spsB_len s hf
  unfold opB
  split
  · simp only [List.length_append]; omega
  · split
    · simp only [List.length_append]; omega
    · split
      · simp only [List.length_append]; omega
      · simp only [List.length_append]; omega
def okO (o : OpV) : Prop := ∃ k r n m q : Nat, o = ⟨k, r, n, m, o.t, o.s, q⟩ ∧ k < 100 ∧ r < 65536 ∧ n < 4294967296 ∧ m < 4294967296 ∧ q < 4294967296 ∧ o.t.length ≤ 1000 ∧ o.s.length ≤ 1000 ∧ ∀ x ∈ o.s, fits x
def opBV (o : OpV) : List UInt8 := opB o.k.toNat o.r.toNat o.n.toNat o.m.toNat o.t o.s o.q.toNat
def opsB (l : List OpV) : List UInt8 := l.flatMap opBV
theorem opsB_len (l : List OpV) (h : ∀ o ∈ l, okO o) : (opsB l).length ≤ l.length * 40000 := by
  induction l with
  | nil => simp [opsB]
  | cons o l ih =>
    have h1 := ih fun x hx => h x (by simp [hx])
    obtain ⟨k, r, n, m, q, e, b1, b2, b3, b4, b5, b6, b7, b8⟩ := h o (by simp)
    have h2 := opB_lenL k r n m q o.t o.s b1 b2 b3 b4 b5 b6 b7 b8
    have h3 : (opBV o).length ≤ 40000 := by rw [e]; simpa [opBV] using h2
    simp only [opsB, List.flatMap_cons, List.length_append, List.length_cons] at h1 ⊢
    omega
theorem opsB_lenS (l : List OpV) (h : ∀ o ∈ l, okO o) (h60 : ∀ o ∈ l, o.s.length ≤ 60) : (opsB l).length ≤ l.length * 5000 := by
  induction l with
  | nil => simp [opsB]
  | cons o l ih =>
    have h1 := ih (fun x hx => h x (by simp [hx])) fun x hx => h60 x (by simp [hx])
    obtain ⟨k, r, n, m, q, e, b1, b2, b3, b4, b5, b6, b7, b8⟩ := h o (by simp)
    have h2 := opB_len k r n m q o.t o.s b1 b2 b3 b4 b5 b6 (h60 o (by simp)) b8
    have h3 : (opBV o).length ≤ 5000 := by rw [e]; simpa [opBV] using h2
    simp only [opsB, List.flatMap_cons, List.length_append, List.length_cons] at h1 ⊢
    omega
theorem opsB_take (l : List OpV) (k : Nat) (o : OpV) (hx : l[k]? = some o) : opsB (l.take (k + 1)) = opsB (l.take k) ++ opBV o := by
  rw [List.take_add_one, hx]; simp [opsB]
def hdB (r s c u n : Nat) : List UInt8 := numB r ++ numB s ++ numB c ++ numB u ++ numB n
theorem refTxB_call (r s c u : Nat) (ops : List OpV) (nn : Nat) (hnn : nn = ops.length) (hr : r < 65536) (hs : s < 4294967296) (hc : c < 9223372036854775808) (hu : u < 1000) (hl : ops.length ≤ 40) (ho : ∀ o ∈ ops, okO o) :
    SCall Tryz.prog 47 [.agg (txL r s c u (.tr nn (encs opC ops)))] (.own 5 (hdB r s c u ops.length ++ opsB ops).length true (bcells (hdB r s c u ops.length ++ opsB ops))) [.agg (txL r s c u (.tr nn (encs opC ops)))] := by
  subst hnn
  have mr : r % 9223372036854775808 = r := Nat.mod_eq_of_lt (by omega)
  have ms : s % 9223372036854775808 = s := Nat.mod_eq_of_lt (by omega)
  have mc : c % 9223372036854775808 = c := Nat.mod_eq_of_lt (by omega)
  have mu : u % 9223372036854775808 = u := Nat.mod_eq_of_lt (by omega)
  have mn : ops.length % 9223372036854775808 = ops.length := Nat.mod_eq_of_lt (by omega)
  have l1 := numB_le 9 r (by omega)
  have l2 := numB_le 9 s (by omega)
  have l3 := numB_le 9 c (by omega)
  have l4 := numB_le 9 u (by omega)
  have l5 := numB_le 9 ops.length (by omega)
  have hbb : ∀ x y : List UInt8, bcells x ++ bcells y = bcells (x ++ y) := fun x y => by simp [bcells]
  unfold hdB
  refine SCall.of_body' (TT := TT) (fun _ => false) [false] ttok Tryz.func47 rfl (Nat.le_of_ble_eq_true rfl) rfl fun fx hfx => WK.top ?_
  simp only [impl, imp, argT, List.append_nil, List.map_nil, List.nil_append, show Tryz.f47.ntmps = 49 from rfl, Nat.zero_add, Nat.reduceAdd]
  have FX := And.intro mr (And.intro ms (And.intro mc (And.intro mu mn)))
  repeat' (first | refine WK.seq ?_ | refine WK.reg ?_ | refine IL.nil ?_ | refine WK.skip ?_ | refine WK.block ?_ | refine WK.exit_here ?_ | refine WK.e1 ?_ | refine WK.e2 ?_ | (with_reducible refine IL.wr ?_ ?_; focus exact cW) | refine IL.sgF ttok ?_ | refine IL.cSF ttok ent46 [.bor] true ?_ (hS := by refine refNum_call _ _ (Nat.lt_succ_self _) ?_ <;> exact cO) | refine IL.cSF ttok ent71 [.bor] true ?_ (hS := by refine refOpB_call _ _ _ _ _ _ _ _ ?_ ?_ ?_ ?_ ?_ ?_ ?_ ?_ ?_ <;> exact cO) | (refine WK.cn (fun h => ?_) (fun h => ?_); all_goals first | (simp only [reduceCtorEq] at h; done) | (simp only [hsA, hsD, hsE, ne_eq] at h; first | done | (exfalso; omega; done) | skip) | skip))
  refine WK.forS ops.length (fun k => True) (fun k => ⟨49, [(1, .ptr 0 0 0), (3, .sl 1 0 0 (numB r ++ numB s ++ numB c ++ numB u ++ numB ops.length ++ opsB (ops.take k)).length), (4, .v (.int .i64 k))], [some ⟨false, 0, 1, false, txL r s c u (.tr ops.length (encs opC ops)), 0, false⟩, some ⟨true, 5, (numB r ++ numB s ++ numB c ++ numB u ++ numB ops.length ++ opsB (ops.take k)).length, true, bcells (numB r ++ numB s ++ numB c ++ numB u ++ numB ops.length ++ opsB (ops.take k)), 0, false⟩]⟩) ⟨trivial, ?_⟩ (fun k hk _ => ?_) (fun _ => ?_)
  · have e0 : numB r ++ numB s ++ numB c ++ numB u ++ numB ops.length ++ opsB (ops.take 0) = numB r ++ numB s ++ numB c ++ numB u ++ numB ops.length := by simp [opsB]
    rw [e0]
    (refine Weak.renS [0, 2] hfx rfl ?_ ?_ rfl <;> (simp only [go_sem, reduceIte, exists_eq_left', exists_eq_left, Blk.mk.injEq, txL, tk2, tk3, tk4, List.length_append] <;> (try and_intros) <;> first | rfl | omega))
  · have hx : ops[k]? = some ops[k] := List.getElem?_eq_getElem hk
    have htk := opsB_take ops k _ hx
    have hok := ho _ (List.getElem_mem hk)
    have hlk := opsB_len (ops.take k) fun o h => ho o (List.mem_of_mem_take h)
    rw [List.length_take] at hlk
    have hHl : (numB r ++ numB s ++ numB c ++ numB u ++ numB ops.length ++ opsB (ops.take k)).length ≤ 2000000 := by simp only [List.length_append]; omega
    have hle : k * 7 + 7 ≤ ops.length * 7 := by omega
    have hne : encs opC ops ≠ [] := encs_ne opC_length (by decide) hx
    generalize ops[k] = o at *
    obtain ⟨ok, or, on, om, oq, e, b1, b2, b3, b4, b5, b6, b7, b8⟩ := hok
    obtain ⟨xk, xr, xn, xm, ot, os, xq⟩ := o
    simp only [OpV.mk.injEq, and_true, true_and] at e b6 b7 b8
    obtain ⟨rfl, rfl, rfl, rfl, rfl⟩ := e
    have hol := opB_lenL ok or on om oq ot os b1 b2 b3 b4 b5 b6 b7 b8
    have hat : ((encs opC ops).drop (k * 7)).take 7 = [.v (.int .i64 (ok : Int)), .v (.int .u16 (or : Int)), .v (.int .u32 (on : Int)), .v (.int .u32 (om : Int)), .v (.string ⟨ot.toArray⟩), .tr os.length (encs spC os), .v (.int .u32 (oq : Int))] := encs_at opC_length hx
    have hW : numB r ++ numB s ++ numB c ++ numB u ++ numB ops.length ++ opsB (ops.take (k + 1)) = numB r ++ numB s ++ numB c ++ numB u ++ numB ops.length ++ opsB (ops.take k) ++ opB ok or on om ot os oq := by rw [htk]; simp [opBV]
    rw [hW]
    generalize numB r ++ numB s ++ numB c ++ numB u ++ numB ops.length ++ opsB (ops.take k) = W at *
    have FX := And.intro hat hle
    repeat' (first | refine WK.seq ?_ | refine WK.reg ?_ | refine IL.nil ?_ | refine WK.skip ?_ | refine WK.block ?_ | refine WK.exit_here ?_ | refine WK.e1 ?_ | refine WK.e2 ?_ | (with_reducible refine IL.wr ?_ ?_; focus exact cW) | refine IL.sgF ttok ?_ | refine IL.cSF ttok ent46 [.bor] true ?_ (hS := by refine refNum_call _ _ (Nat.lt_succ_self _) ?_ <;> exact cO) | refine IL.cSF ttok ent71 [.bor] true ?_ (hS := by refine refOpB_call _ _ _ _ _ _ _ _ ?_ ?_ ?_ ?_ ?_ ?_ ?_ ?_ ?_ <;> exact cO) | (refine WK.cn (fun h => ?_) (fun h => ?_); all_goals first | (simp only [reduceCtorEq] at h; done) | (simp only [hsA, hsD, hsE, ne_eq] at h; first | done | (exfalso; omega; done) | skip) | skip))
    refine ⟨trivial, ?_⟩
    (refine Weak.renS [0, 1] hfx rfl ?_ ?_ rfl <;> (simp only [go_sem, reduceIte, exists_eq_left', exists_eq_left, Blk.mk.injEq, txL, hbb, List.length_append] <;> (try and_intros) <;> first | rfl | omega))
  · rw [List.take_length]
    repeat' (first | refine WK.seq ?_ | refine WK.reg ?_ | refine IL.nil ?_ | refine WK.skip ?_ | refine WK.block ?_ | refine WK.exit_here ?_ | refine WK.e1 ?_ | refine WK.e2 ?_ | (with_reducible refine IL.wr ?_ ?_; focus exact cW) | refine IL.sg ttok ?_ | refine IL.cS ttok ent46 [.bor] true ?_ (hS := by refine refNum_call _ _ (Nat.lt_succ_self _) ?_ <;> exact cO) | refine IL.cS ttok ent71 [.bor] true ?_ (hS := by refine refOpB_call _ _ _ _ _ _ _ _ ?_ ?_ ?_ ?_ ?_ ?_ ?_ ?_ ?_ <;> exact cO) | (refine WK.cn (fun h => ?_) (fun h => ?_); all_goals first | (simp only [reduceCtorEq] at h; done) | (simp only [hsA, hsD, hsE, ne_eq] at h; first | done | (exfalso; omega; done) | skip) | skip))
    all_goals try ((first | refine WK.ret ⟨.inr rfl, ?_⟩ | refine ⟨.inl rfl, ?_⟩ | refine ⟨.inl trivial, ?_⟩); refine Fin.o ?_ ?_ (h1 := by first | rfl | (simp only [go_sem, show Tryz.f47.results.toList = [.tmp 2] from rfl, reduceIte] <;> rfl)); rotate_left 1; (focus (first | rfl | skip)); all_goals try with_reducible rfl)
    all_goals rfl
end Go.Proofs.YtclhjcbnpdlgbaaGreatDoor
/- Small transactions. -/
namespace Go.Proofs.YtclhjcbnpdlgbaaGreatDoor
open Go Go.Lift
set_option maxHeartbeats 4000000
set_option linter.unusedSimpArgs false
set_option linter.unusedVariables false
attribute [local irreducible] WK IL IP IG IW DW

def smallO (o : OpV) : Prop := o.t.length ≤ 300 ∧ o.s.length ≤ 60
def smallT (ops : List OpV) : Prop := ops.length ≤ 40 ∧ ∀ o ∈ ops, smallO o
open Classical in
theorem small_call (r s c u : Int) (ops : List OpV) (nn : Nat) (hnn : nn = ops.length) (hl : ops.length ≤ 9223372036854775807) (ht : ∀ o ∈ ops, o.t.length ≤ 9223372036854775807 ∧ o.s.length ≤ 9223372036854775807) : SCall Tryz.prog 27 [.agg (txL r s c u (.tr nn (encs opC ops)))] (.v (.bool (decide (smallT ops)))) [.agg (txL r s c u (.tr nn (encs opC ops)))] := by
  subst hnn
  by_cases h40 : ops.length ≤ 40
  · refine SCall.of_body' (TT := TT) (fun _ => false) [false] ttok Tryz.func27 rfl (Nat.le_of_ble_eq_true rfl) rfl fun fx hfx => WK.top ?_
    simp only [impl, imp, argT, List.append_nil, List.map_nil, List.nil_append, show Tryz.f27.ntmps = 27 from rfl, Nat.zero_add, Nat.reduceAdd]
    repeat' (first | refine WK.seq ?_ | refine WK.reg ?_ | refine IL.nil ?_ | refine WK.skip ?_ | refine WK.block ?_ | refine WK.exit_here ?_ | refine WK.e1 ?_ | refine WK.e2 ?_ | (with_reducible refine IL.wr ?_ ?_; focus exact cW) | refine IL.sg ttok ?_ | refine IL.nn ?_ | ((first | ((first | refine IL.ag (fun h => ?_) (fun h => ?_) | refine IL.ap (fun h => ?_) (fun h => ?_)); (fail_if_success (focus (simp only [reduceCtorEq] at h)))) | refine WK.cn (fun h => ?_) (fun h => ?_)); all_goals first | (simp only [reduceCtorEq] at h; done) | (simp only [hsA, hsD, hsE, ne_eq] at h; first | done | (exfalso; omega; done) | skip) | skip))
    refine WK.forS ops.length (fun k => ∀ o ∈ ops.take k, smallO o) (fun k => ⟨27, [(10, .tr ops.length (encs opC ops)), (11, .v (.int .i64 ops.length)), (12, .v (.int .i64 k))], []⟩) ⟨by simp, ?_⟩ (fun k hk ho => ?_) (fun ho => ?_)
    · (refine Weak.renS [] hfx rfl ?_ ?_ rfl <;> (simp only [go_sem, reduceIte, exists_eq_left', exists_eq_left, Blk.mk.injEq, txL] <;> (try and_intros) <;> first | rfl | omega))
    · have hx : ops[k]? = some ops[k] := List.getElem?_eq_getElem hk
      have hmem := List.getElem_mem hk
      have htl := ht _ hmem
      have hle : k * 7 + 7 ≤ ops.length * 7 := by omega
      have hne : encs opC ops ≠ [] := encs_ne opC_length (by decide) hx
      have htk : ops.take (k + 1) = ops.take k ++ [ops[k]] := by rw [List.take_add_one, hx]; rfl
      generalize ops[k] = o at *
      obtain ⟨ok, or, on, om, ot, os, oq⟩ := o
      simp only at htl
      have hbad : ¬ (ot.length ≤ 300 ∧ os.length ≤ 60) → ¬ smallT ops := fun h hs => h (hs.2 _ hmem)
      have hgo : (ot.length ≤ 300 ∧ os.length ≤ 60) → ∀ o ∈ ops.take (k + 1), smallO o := fun h o ho2 => by
        rw [htk] at ho2
        rcases List.mem_append.1 ho2 with h2 | h2
        · exact ho o h2
        · simp only [List.mem_cons, List.not_mem_nil, or_false] at h2; subst h2; exact h
      have hat : ((encs opC ops).drop (k * 7)).take 7 = [.v (.int .i64 ok), .v (.int .u16 or), .v (.int .u32 on), .v (.int .u32 om), .v (.string ⟨ot.toArray⟩), .tr os.length (encs spC os), .v (.int .u32 oq)] := encs_at opC_length hx
      have FX := And.intro hat hle
      repeat' (first | refine WK.seq ?_ | refine WK.reg ?_ | refine IL.nil ?_ | refine WK.skip ?_ | refine WK.block ?_ | refine WK.exit_here ?_ | refine WK.e1 ?_ | refine WK.e2 ?_ | (with_reducible refine IL.wr ?_ ?_; focus exact cW) | refine IL.sgF ttok ?_ | refine IL.nn ?_ | ((first | ((first | refine IL.ag (fun h => ?_) (fun h => ?_) | refine IL.ap (fun h => ?_) (fun h => ?_)); (fail_if_success (focus (simp only [reduceCtorEq] at h)))) | refine WK.cn (fun h => ?_) (fun h => ?_)); all_goals first | (simp only [reduceCtorEq] at h; done) | (simp only [hsA, hsD, hsE, ne_eq] at h; first | done | (exfalso; omega; done) | skip) | skip))
      all_goals try ((first | refine WK.ret ⟨.inr rfl, ?_⟩ | refine ⟨.inl rfl, ?_⟩ | refine ⟨.inl trivial, ?_⟩); refine Fin.o ?_ ?_ (h1 := by first | rfl | (simp only [go_sem, show Tryz.f27.results.toList = [.tmp 2] from rfl, reduceIte] <;> rfl)); rotate_left 1; (focus (first | rfl | skip)); all_goals try with_reducible rfl)
      all_goals first | rw [decide_eq_false (hbad (by omega))] | (refine ⟨hgo (by omega), ?_⟩; (refine Weak.renS [] hfx rfl ?_ ?_ rfl <;> (simp only [go_sem, reduceIte, exists_eq_left', exists_eq_left, Blk.mk.injEq, txL] <;> (try and_intros) <;> first | rfl | omega)))
    · rw [List.take_length] at ho
      have hs : smallT ops := ⟨h40, ho⟩
      rw [decide_eq_true hs]
      repeat' (first | refine WK.seq ?_ | refine WK.reg ?_ | refine IL.nil ?_ | refine WK.skip ?_ | refine WK.block ?_ | refine WK.exit_here ?_ | refine WK.e1 ?_ | refine WK.e2 ?_ | (with_reducible refine IL.wr ?_ ?_; focus exact cW) | refine IL.sg ttok ?_ | refine IL.nn ?_ | ((first | ((first | refine IL.ag (fun h => ?_) (fun h => ?_) | refine IL.ap (fun h => ?_) (fun h => ?_)); (fail_if_success (focus (simp only [reduceCtorEq] at h)))) | refine WK.cn (fun h => ?_) (fun h => ?_)); all_goals first | (simp only [reduceCtorEq] at h; done) | (simp only [hsA, hsD, hsE, ne_eq] at h; first | done | (exfalso; omega; done) | skip) | skip))
      all_goals try ((first | refine WK.ret ⟨.inr rfl, ?_⟩ | refine ⟨.inl rfl, ?_⟩ | refine ⟨.inl trivial, ?_⟩); refine Fin.o ?_ ?_ (h1 := by first | rfl | (simp only [go_sem, show Tryz.f27.results.toList = [.tmp 2] from rfl, reduceIte] <;> rfl)); rotate_left 1; (focus (first | rfl | skip)); all_goals try with_reducible rfl)
  · have hs : ¬ smallT ops := fun h => h40 h.1
    rw [decide_eq_false hs]
    refine SCall.of_body' (TT := TT) (fun _ => false) [false] ttok Tryz.func27 rfl (Nat.le_of_ble_eq_true rfl) rfl fun fx hfx => WK.top ?_
    simp only [impl, imp, argT, List.append_nil, List.map_nil, List.nil_append, show Tryz.f27.ntmps = 27 from rfl, Nat.zero_add, Nat.reduceAdd]
    repeat' (first | refine WK.seq ?_ | refine WK.reg ?_ | refine IL.nil ?_ | refine WK.skip ?_ | refine WK.block ?_ | refine WK.exit_here ?_ | refine WK.e1 ?_ | refine WK.e2 ?_ | (with_reducible refine IL.wr ?_ ?_; focus exact cW) | refine IL.sg ttok ?_ | refine IL.nn ?_ | ((first | ((first | refine IL.ag (fun h => ?_) (fun h => ?_) | refine IL.ap (fun h => ?_) (fun h => ?_)); (fail_if_success (focus (simp only [reduceCtorEq] at h)))) | refine WK.cn (fun h => ?_) (fun h => ?_)); all_goals first | (simp only [reduceCtorEq] at h; done) | (simp only [hsA, hsD, hsE, ne_eq] at h; first | done | (exfalso; omega; done) | skip) | skip))
    all_goals try ((first | refine WK.ret ⟨.inr rfl, ?_⟩ | refine ⟨.inl rfl, ?_⟩ | refine ⟨.inl trivial, ?_⟩); refine Fin.o ?_ ?_ (h1 := by first | rfl | (simp only [go_sem, show Tryz.f27.results.toList = [.tmp 2] from rfl, reduceIte] <;> rfl)); rotate_left 1; (focus (first | rfl | skip)); all_goals try with_reducible rfl)
end Go.Proofs.YtclhjcbnpdlgbaaGreatDoor
/- The document's Fit of a transaction. -/
namespace Go.Proofs.YtclhjcbnpdlgbaaGreatDoor
open Go Go.Lift
set_option maxHeartbeats 4000000
set_option linter.unusedSimpArgs false
set_option linter.unusedVariables false
attribute [local irreducible] WK IL IP IG IW DW

noncomputable def fit9Go (s : Int) (len : Nat) : List OpV → Int → Int
  | [], _ => 0
  | o :: r, last =>
    if fit8 o.k o.r o.n o.m o.t o.s o.q = 0 then
      (if 3 < o.k ∧ (¬ len = 1 ∨ s ≤ o.q) then 11
       else if 0 < (atoms o.k o.t o.s : Int) ∧ 0 ≤ last ∧ ¬ o.m = last + 1 then 11
       else fit9Go s len r (if 0 < (atoms o.k o.t o.s : Int) then o.m + (atoms o.k o.t o.s : Int) - 1 else last))
    else fit8 o.k o.r o.n o.m o.t o.s o.q
noncomputable def fit9 (s c u : Int) (ops : List OpV) : Int :=
  if s < 1 ∨ 268435456 < s ∨ c < 1 ∨ 1099511627776 < c ∨ u < 0 ∨ 7 < u ∨ ops.length = 0 then 11 else if 16 < ops.length then 13 else fit9Go s ops.length ops (-1)
theorem fit9Go_ok (s : Int) (len : Nat) : ∀ (l : List OpV) (last : Int), fit9Go s len l last = 0 → ∀ o ∈ l, fit8 o.k o.r o.n o.m o.t o.s o.q = 0
  | [], _, _ => by simp
  | o :: r, last, h => by
    rw [fit9Go] at h
    split at h
    · rename_i h0
      split at h
      · exact absurd h (by decide)
      · split at h
        · exact absurd h (by decide)
        · intro x hx
          rcases List.mem_cons.1 hx with rfl | hx
          · exact h0
          · exact fit9Go_ok s len r _ h x hx
    · rename_i h0
      exact absurd h h0
theorem fit9_ok {s c u : Int} {ops : List OpV} (h : fit9 s c u ops = 0) : 1 ≤ s ∧ s ≤ 268435456 ∧ 1 ≤ c ∧ c ≤ 1099511627776 ∧ 0 ≤ u ∧ u ≤ 7 ∧ 1 ≤ ops.length ∧ ops.length ≤ 16 ∧ ∀ o ∈ ops, fit8 o.k o.r o.n o.m o.t o.s o.q = 0 := by
  unfold fit9 at h
  split at h
  · exact absurd h (by decide)
  · rename_i h1
    split at h
    · exact absurd h (by decide)
    · exact ⟨by omega, by omega, by omega, by omega, by omega, by omega, by omega, by omega, fit9Go_ok _ _ _ _ h⟩
theorem fit9_call (r s c u : Int) (ops : List OpV) (nn : Nat) (hnn : nn = ops.length) (hl : ops.length ≤ 40) (ho : ∀ o ∈ ops, o.t.length ≤ 1000 ∧ o.s.length ≤ 1024 ∧ 0 ≤ o.n ∧ 0 ≤ o.q ∧ 0 ≤ o.m ∧ o.m ≤ 4294967295) :
    SCall Tryz.prog 30 [.agg (txL r s c u (.tr nn (encs opC ops)))] (.v (.int .i64 (fit9 s c u ops))) [.agg (txL r s c u (.tr nn (encs opC ops)))] := by
  subst hnn
  unfold fit9
  by_cases hh : s < 1 ∨ 268435456 < s ∨ c < 1 ∨ 1099511627776 < c ∨ u < 0 ∨ 7 < u ∨ ops.length = 0
  · rw [if_pos hh]
    refine SCall.of_body' (TT := TT) (fun _ => false) [false] ttok Tryz.func30 rfl (Nat.le_of_ble_eq_true rfl) rfl fun fx hfx => WK.top ?_
    simp only [impl, imp, argT, List.append_nil, List.map_nil, List.nil_append, show Tryz.f30.ntmps = 103 from rfl, Nat.zero_add, Nat.reduceAdd]
    repeat' (first | refine WK.seq ?_ | refine WK.reg ?_ | refine IL.nil ?_ | refine WK.skip ?_ | refine WK.block ?_ | refine WK.exit_here ?_ | refine WK.e1 ?_ | refine WK.e2 ?_ | (with_reducible refine IL.wr ?_ ?_; focus exact cW) | refine IL.sg ttok ?_ | refine IL.nn ?_ | refine IL.cS ttok ent61 [.bor] true ?_ (hS := by refine fit8_call _ _ _ _ _ _ _ _ ?_ ?_ ?_ ?_ ?_ <;> exact cO) | ((first | ((first | refine IL.ag (fun h => ?_) (fun h => ?_) | refine IL.ap (fun h => ?_) (fun h => ?_)); (fail_if_success (focus (simp only [reduceCtorEq] at h)))) | refine WK.cn (fun h => ?_) (fun h => ?_)); all_goals first | (simp only [reduceCtorEq] at h; done) | (simp only [hsA, hsD, hsE, ne_eq] at h; first | done | (exfalso; omega; done) | skip) | skip))
    all_goals try ((first | refine WK.ret ⟨.inr rfl, ?_⟩ | refine ⟨.inl rfl, ?_⟩ | refine ⟨.inl trivial, ?_⟩); refine Fin.o ?_ ?_ (h1 := by first | rfl | (simp only [go_sem, show Tryz.f30.results.toList = [.tmp 2] from rfl, reduceIte] <;> rfl)); rotate_left 1; (focus (first | rfl | skip)); all_goals try with_reducible rfl)
  · rw [if_neg hh]
    by_cases h16 : 16 < ops.length
    · rw [if_pos h16]
      refine SCall.of_body' (TT := TT) (fun _ => false) [false] ttok Tryz.func30 rfl (Nat.le_of_ble_eq_true rfl) rfl fun fx hfx => WK.top ?_
      simp only [impl, imp, argT, List.append_nil, List.map_nil, List.nil_append, show Tryz.f30.ntmps = 103 from rfl, Nat.zero_add, Nat.reduceAdd]
      repeat' (first | refine WK.seq ?_ | refine WK.reg ?_ | refine IL.nil ?_ | refine WK.skip ?_ | refine WK.block ?_ | refine WK.exit_here ?_ | refine WK.e1 ?_ | refine WK.e2 ?_ | (with_reducible refine IL.wr ?_ ?_; focus exact cW) | refine IL.sg ttok ?_ | refine IL.nn ?_ | refine IL.cS ttok ent61 [.bor] true ?_ (hS := by refine fit8_call _ _ _ _ _ _ _ _ ?_ ?_ ?_ ?_ ?_ <;> exact cO) | ((first | ((first | refine IL.ag (fun h => ?_) (fun h => ?_) | refine IL.ap (fun h => ?_) (fun h => ?_)); (fail_if_success (focus (simp only [reduceCtorEq] at h)))) | refine WK.cn (fun h => ?_) (fun h => ?_)); all_goals first | (simp only [reduceCtorEq] at h; done) | (simp only [hsA, hsD, hsE, ne_eq] at h; first | done | (exfalso; omega; done) | skip) | skip))
      all_goals try ((first | refine WK.ret ⟨.inr rfl, ?_⟩ | refine ⟨.inl rfl, ?_⟩ | refine ⟨.inl trivial, ?_⟩); refine Fin.o ?_ ?_ (h1 := by first | rfl | (simp only [go_sem, show Tryz.f30.results.toList = [.tmp 2] from rfl, reduceIte] <;> rfl)); rotate_left 1; (focus (first | rfl | skip)); all_goals try with_reducible rfl)
    · rw [if_neg h16]
      generalize hG : fit9Go s ops.length ops (-1) = G
      refine SCall.of_body' (TT := TT) (fun _ => false) [false] ttok Tryz.func30 rfl (Nat.le_of_ble_eq_true rfl) rfl fun fx hfx => WK.top ?_
      simp only [impl, imp, argT, List.append_nil, List.map_nil, List.nil_append, show Tryz.f30.ntmps = 103 from rfl, Nat.zero_add, Nat.reduceAdd]
      repeat' (first | refine WK.seq ?_ | refine WK.reg ?_ | refine IL.nil ?_ | refine WK.skip ?_ | refine WK.block ?_ | refine WK.exit_here ?_ | refine WK.e1 ?_ | refine WK.e2 ?_ | (with_reducible refine IL.wr ?_ ?_; focus exact cW) | refine IL.sg ttok ?_ | refine IL.nn ?_ | refine IL.cS ttok ent61 [.bor] true ?_ (hS := by refine fit8_call _ _ _ _ _ _ _ _ ?_ ?_ ?_ ?_ ?_ <;> exact cO) | ((first | ((first | refine IL.ag (fun h => ?_) (fun h => ?_) | refine IL.ap (fun h => ?_) (fun h => ?_)); (fail_if_success (focus (simp only [reduceCtorEq] at h)))) | refine WK.cn (fun h => ?_) (fun h => ?_)); all_goals first | (simp only [reduceCtorEq] at h; done) | (simp only [hsA, hsD, hsE, ne_eq] at h; first | done | (exfalso; omega; done) | skip) | skip))
      refine WK.whileS (α := Nat × Int) (fun x => ops.length - x.1) (fun x => x.1 ≤ ops.length ∧ -1 ≤ x.2 ∧ x.2 ≤ 5000000000 ∧ fit9Go s ops.length (ops.drop x.1) x.2 = G)
        (fun x => ⟨103, [(1, .ptr 0 0 0), (3, .v (.int .i64 x.2)), (4, .v (.int .i64 (x.1 : Int)))], [some ⟨false, 0, 1, false, txL r s c u (.tr ops.length (encs opC ops)), 0, false⟩]⟩) (0, -1) ⟨⟨Nat.zero_le _, by decide, by decide, by simpa using hG⟩, ?_⟩ ?_
      · (refine Weak.renS [0] hfx rfl ?_ ?_ rfl <;> (simp only [go_sem, reduceIte, exists_eq_left', exists_eq_left, Blk.mk.injEq, txL] <;> (try and_intros) <;> first | rfl | omega))
      · rintro ⟨i, last⟩ ⟨hi, hl0, hl1, hg⟩
        simp only at hi hl0 hl1 hg ⊢
        rcases Nat.eq_or_lt_of_le hi with rfl | hi
        · rw [List.drop_length, fit9Go] at hg
          subst hg
          repeat' (first | refine WK.seq ?_ | refine WK.reg ?_ | refine IL.nil ?_ | refine WK.skip ?_ | refine WK.block ?_ | refine WK.exit_here ?_ | refine WK.e1 ?_ | refine WK.e2 ?_ | (with_reducible refine IL.wr ?_ ?_; focus exact cW) | refine IL.sg ttok ?_ | refine IL.nn ?_ | refine IL.cS ttok ent61 [.bor] true ?_ (hS := by refine fit8_call _ _ _ _ _ _ _ _ ?_ ?_ ?_ ?_ ?_ <;> exact cO) | ((first | ((first | refine IL.ag (fun h => ?_) (fun h => ?_) | refine IL.ap (fun h => ?_) (fun h => ?_)); (fail_if_success (focus (simp only [reduceCtorEq] at h)))) | refine WK.cn (fun h => ?_) (fun h => ?_)); all_goals first | (simp only [reduceCtorEq] at h; done) | (simp only [hsA, hsD, hsE, ne_eq] at h; first | done | (exfalso; omega; done) | skip) | skip))
          all_goals try ((first | refine WK.ret ⟨.inr rfl, ?_⟩ | refine ⟨.inl rfl, ?_⟩ | refine ⟨.inl trivial, ?_⟩); refine Fin.o ?_ ?_ (h1 := by first | rfl | (simp only [go_sem, show Tryz.f30.results.toList = [.tmp 2] from rfl, reduceIte] <;> rfl)); rotate_left 1; (focus (first | rfl | skip)); all_goals try with_reducible rfl)
        · have hx : ops[i]? = some ops[i] := List.getElem?_eq_getElem hi
          have hoi := ho _ (List.getElem_mem hi)
          rw [List.drop_eq_getElem_cons hi, fit9Go] at hg
          have hle : i * 7 + 7 ≤ ops.length * 7 := by omega
          have hne : encs opC ops ≠ [] := encs_ne opC_length (by decide) hx
          generalize ops[i] = o at *
          obtain ⟨ok, or, on, om, ot, os, oq⟩ := o
          simp only at hoi hg
          obtain ⟨b1, b2, b3, b4, b5, b6⟩ := hoi
          have hat : ((encs opC ops).drop (i * 7)).take 7 = [.v (.int .i64 ok), .v (.int .u16 or), .v (.int .u32 on), .v (.int .u32 om), .v (.string ⟨ot.toArray⟩), .tr os.length (encs spC os), .v (.int .u32 oq)] := encs_at opC_length hx
          have hf := fit8_call ok or on om oq ot os os.length rfl (by omega) (by omega) b3 b4
          by_cases h0 : fit8 ok or on om ot os oq = 0
          · rw [if_pos h0] at hg
            rw [h0] at hf
            have h3 : ok = 3 → (∀ x ∈ os, rightI x) ∧ tot os ≤ 1024 := fun h => by
              rcases fit8_ok h0 with k | k | k | k
              · omega
              · omega
              · exact fit7_ok k.2.2.2.1
              · omega
            have ha := atoms_call ok or on om oq ot os os.length rfl (by omega) (by omega) h3
            have hab : atoms ok ot os ≤ 100000 := by
              unfold atoms
              split
              · omega
              · split
                · rename_i h; have := idsL_len os (h3 h).1; have := (h3 h).2; omega
                · omega
            generalize atoms ok ot os = an at *
            by_cases c1 : 3 < ok ∧ (¬ ops.length = 1 ∨ s ≤ oq)
            · rw [if_pos c1] at hg
              subst hg
              have FX := And.intro hat hle
              repeat' (first | refine WK.seq ?_ | refine WK.reg ?_ | refine IL.nil ?_ | refine WK.skip ?_ | refine WK.block ?_ | refine WK.exit_here ?_ | refine WK.e1 ?_ | refine WK.e2 ?_ | (with_reducible refine IL.wr ?_ ?_; focus exact cW) | refine IL.sgF ttok ?_ | refine IL.nn ?_ | refine IL.cSF ttok ent25 [.bor] true ?_ (hS := by exact ha) | refine IL.cSF ttok ent61 [.bor] true ?_ (hS := by exact hf) | ((first | ((first | refine IL.ag (fun h => ?_) (fun h => ?_) | refine IL.ap (fun h => ?_) (fun h => ?_)); (fail_if_success (focus (simp only [reduceCtorEq] at h)))) | refine WK.cn (fun h => ?_) (fun h => ?_)); all_goals first | (simp only [reduceCtorEq] at h; done) | (simp only [hsA, hsD, hsE, ne_eq] at h; first | done | (exfalso; omega; done) | skip) | skip))
              all_goals try ((first | refine WK.ret ⟨.inr rfl, ?_⟩ | refine ⟨.inl rfl, ?_⟩ | refine ⟨.inl trivial, ?_⟩); refine Fin.o ?_ ?_ (h1 := by first | rfl | (simp only [go_sem, show Tryz.f30.results.toList = [.tmp 2] from rfl, reduceIte] <;> rfl)); rotate_left 1; (focus (first | rfl | skip)); all_goals try with_reducible rfl)
            · rw [if_neg c1] at hg
              by_cases c2 : 0 < (an : Int) ∧ 0 ≤ last ∧ ¬ om = last + 1
              · rw [if_pos c2] at hg
                subst hg
                have FX := And.intro hat hle
                repeat' (first | refine WK.seq ?_ | refine WK.reg ?_ | refine IL.nil ?_ | refine WK.skip ?_ | refine WK.block ?_ | refine WK.exit_here ?_ | refine WK.e1 ?_ | refine WK.e2 ?_ | (with_reducible refine IL.wr ?_ ?_; focus exact cW) | refine IL.sgF ttok ?_ | refine IL.nn ?_ | refine IL.cSF ttok ent25 [.bor] true ?_ (hS := by exact ha) | refine IL.cSF ttok ent61 [.bor] true ?_ (hS := by exact hf) | ((first | ((first | refine IL.ag (fun h => ?_) (fun h => ?_) | refine IL.ap (fun h => ?_) (fun h => ?_)); (fail_if_success (focus (simp only [reduceCtorEq] at h)))) | refine WK.cn (fun h => ?_) (fun h => ?_)); all_goals first | (simp only [reduceCtorEq] at h; done) | (simp only [hsA, hsD, hsE, ne_eq] at h; first | done | (exfalso; omega; done) | skip) | skip))
                all_goals try ((first | refine WK.ret ⟨.inr rfl, ?_⟩ | refine ⟨.inl rfl, ?_⟩ | refine ⟨.inl trivial, ?_⟩); refine Fin.o ?_ ?_ (h1 := by first | rfl | (simp only [go_sem, show Tryz.f30.results.toList = [.tmp 2] from rfl, reduceIte] <;> rfl)); rotate_left 1; (focus (first | rfl | skip)); all_goals try with_reducible rfl)
              · rw [if_neg c2] at hg
                by_cases c3 : 0 < (an : Int)
                · rw [if_pos c3] at hg
                  have FX := And.intro hat hle
                  repeat' (first | refine WK.seq ?_ | refine WK.reg ?_ | refine IL.nil ?_ | refine WK.skip ?_ | refine WK.block ?_ | refine WK.exit_here ?_ | refine WK.e1 ?_ | refine WK.e2 ?_ | (with_reducible refine IL.wr ?_ ?_; focus exact cW) | refine IL.sgF ttok ?_ | refine IL.nn ?_ | refine IL.cSF ttok ent25 [.bor] true ?_ (hS := by exact ha) | refine IL.cSF ttok ent61 [.bor] true ?_ (hS := by exact hf) | ((first | ((first | refine IL.ag (fun h => ?_) (fun h => ?_) | refine IL.ap (fun h => ?_) (fun h => ?_)); (fail_if_success (focus (simp only [reduceCtorEq] at h)))) | refine WK.cn (fun h => ?_) (fun h => ?_)); all_goals first | (simp only [reduceCtorEq] at h; done) | (simp only [hsA, hsD, hsE, ne_eq] at h; first | done | (exfalso; omega; done) | skip) | skip))
                  all_goals (refine ⟨(i + 1, om + (an : Int) - 1), by simp only; omega, ⟨by simp only; omega, by simp only; omega, by simp only; omega, hg⟩, ?_⟩; (refine Weak.renS [0] hfx rfl ?_ ?_ rfl <;> (simp only [go_sem, reduceIte, exists_eq_left', exists_eq_left, Blk.mk.injEq, txL] <;> (try and_intros) <;> first | rfl | omega)))
                · rw [if_neg c3] at hg
                  have FX := And.intro hat hle
                  repeat' (first | refine WK.seq ?_ | refine WK.reg ?_ | refine IL.nil ?_ | refine WK.skip ?_ | refine WK.block ?_ | refine WK.exit_here ?_ | refine WK.e1 ?_ | refine WK.e2 ?_ | (with_reducible refine IL.wr ?_ ?_; focus exact cW) | refine IL.sgF ttok ?_ | refine IL.nn ?_ | refine IL.cSF ttok ent25 [.bor] true ?_ (hS := by exact ha) | refine IL.cSF ttok ent61 [.bor] true ?_ (hS := by exact hf) | ((first | ((first | refine IL.ag (fun h => ?_) (fun h => ?_) | refine IL.ap (fun h => ?_) (fun h => ?_)); (fail_if_success (focus (simp only [reduceCtorEq] at h)))) | refine WK.cn (fun h => ?_) (fun h => ?_)); all_goals first | (simp only [reduceCtorEq] at h; done) | (simp only [hsA, hsD, hsE, ne_eq] at h; first | done | (exfalso; omega; done) | skip) | skip))
                  all_goals (refine ⟨(i + 1, last), by simp only; omega, ⟨by simp only; omega, hl0, hl1, hg⟩, ?_⟩; (refine Weak.renS [0] hfx rfl ?_ ?_ rfl <;> (simp only [go_sem, reduceIte, exists_eq_left', exists_eq_left, Blk.mk.injEq, txL] <;> (try and_intros) <;> first | rfl | omega)))
          · rw [if_neg h0] at hg
            subst hg
            generalize fit8 ok or on om ot os oq = e at *
            have FX := And.intro hat hle
            repeat' (first | refine WK.seq ?_ | refine WK.reg ?_ | refine IL.nil ?_ | refine WK.skip ?_ | refine WK.block ?_ | refine WK.exit_here ?_ | refine WK.e1 ?_ | refine WK.e2 ?_ | (with_reducible refine IL.wr ?_ ?_; focus exact cW) | refine IL.sgF ttok ?_ | refine IL.nn ?_ | refine IL.cSF ttok ent25 [.bor] true ?_ (hS := by exact ha) | refine IL.cSF ttok ent61 [.bor] true ?_ (hS := by exact hf) | ((first | ((first | refine IL.ag (fun h => ?_) (fun h => ?_) | refine IL.ap (fun h => ?_) (fun h => ?_)); (fail_if_success (focus (simp only [reduceCtorEq] at h)))) | refine WK.cn (fun h => ?_) (fun h => ?_)); all_goals first | (simp only [reduceCtorEq] at h; done) | (simp only [hsA, hsD, hsE, ne_eq] at h; first | done | (exfalso; omega; done) | skip) | skip))
            all_goals try ((first | refine WK.ret ⟨.inr rfl, ?_⟩ | refine ⟨.inl rfl, ?_⟩ | refine ⟨.inl trivial, ?_⟩); refine Fin.o ?_ ?_ (h1 := by first | rfl | (simp only [go_sem, show Tryz.f30.results.toList = [.tmp 2] from rfl, reduceIte] <;> rfl)); rotate_left 1; (focus (first | rfl | skip)); all_goals try with_reducible rfl)
end Go.Proofs.YtclhjcbnpdlgbaaGreatDoor
/- The code's Fit of a transaction. -/
namespace Go.Proofs.YtclhjcbnpdlgbaaGreatDoor
open Go Go.Lift
set_option maxHeartbeats 4000000
set_option linter.unusedSimpArgs false
set_option linter.unusedVariables false
attribute [local irreducible] WK IL IP IG IW DW

theorem cHead_call (r s c u : Int) (nn : Nat) (xs : List IV) : SCall Tryz.prog 65 [.agg (txL r s c u (.tr nn xs))] (.v (.bool (decide (1 ≤ s ∧ s ≤ 268435456 ∧ 1 ≤ c ∧ c ≤ 1099511627776 ∧ 0 ≤ u ∧ u < 8)))) [.agg (txL r s c u (.tr nn xs))] := by
  refine SCall.of_body' (TT := TT) (fun _ => false) [false] ttok Tryz.func65 rfl (Nat.le_of_ble_eq_true rfl) rfl fun fx hfx => WK.top ?_
  simp only [impl, imp, argT, List.append_nil, List.map_nil, List.nil_append, show Tryz.f65.ntmps = 31 from rfl, Nat.zero_add, Nat.reduceAdd]
  repeat' (first | refine WK.seq ?_ | refine WK.reg ?_ | refine IL.nil ?_ | (with_reducible refine IL.wr ?_ ?_; focus exact cW) | refine IL.sg ttok ?_ | refine IL.nn ?_ | (((first | refine IL.ag (fun h => ?_) (fun h => ?_) | refine IL.ap (fun h => ?_) (fun h => ?_)); (fail_if_success (focus (simp only [reduceCtorEq] at h)))); all_goals first | (simp only [reduceCtorEq] at h; done) | (simp only [hsA, hsD, hsE, ne_eq] at h; first | done | (exfalso; omega; done) | skip) | skip))
  all_goals try ((first | refine WK.ret ⟨.inr rfl, ?_⟩ | refine ⟨.inl rfl, ?_⟩ | refine ⟨.inl trivial, ?_⟩); refine Fin.o ?_ ?_ (h1 := by first | rfl | (simp only [go_sem, show Tryz.f65.results.toList = [.tmp 2] from rfl, reduceIte] <;> rfl)); rotate_left 1; (focus (first | rfl | skip)); all_goals try with_reducible rfl)
  all_goals grind
def wfC (o : OpV) : Prop := 0 ≤ o.n ∧ (0 ≤ o.m ∧ o.m ≤ 4294967295) ∧ (0 ≤ o.q ∧ o.q ≤ 4294967295) ∧ ∀ x ∈ o.s, (0 ≤ x.2.1 ∧ x.2.1 ≤ 4294967295) ∧ (-9223372036854775808 ≤ x.2.2 ∧ x.2.2 ≤ 9223372036854775807)
theorem atoms_num {k r n m q : Int} {t : List UInt8} {s : List Sp} (h : fit8 k r n m t s q = 0) : 0 < (atoms k t s : Int) → 1 ≤ m ∧ m + (atoms k t s : Int) ≤ 268435457 := by
  intro h0
  have key : numd k r n m t s → 1 ≤ m ∧ m + (atoms k t s : Int) ≤ 268435457 := fun h => by unfold numd at h; omega
  rcases fit8_ok h with g | g | g | g
  · exact key g.2.2.2.2
  · exfalso; unfold atoms at h0; rw [if_neg (by omega), if_neg (by omega)] at h0; exact absurd h0 (by decide)
  · exact key g.2.2.2.2
  · exfalso; unfold atoms at h0; rw [if_neg (by omega), if_neg (by omega)] at h0; exact absurd h0 (by decide)
theorem fit8_kind {k r n m q : Int} {t : List UInt8} {s : List Sp} (h : fit8 k r n m t s q = 0) : 1 ≤ k ∧ k ≤ 5 := by
  rcases fit8_ok h with g | g | g | g <;> omega
theorem fit8_h3 {k r n m q : Int} {t : List UInt8} {s : List Sp} (h0 : fit8 k r n m t s q = 0) : k = 3 → (∀ x ∈ s, rightI x) ∧ tot s ≤ 1024 := fun h => by
  rcases fit8_ok h0 with h' | h' | h' | h'
  · omega
  · omega
  · exact fit7_ok h'.2.2.2.1
  · omega
theorem atoms_le {k r n m q : Int} {t : List UInt8} {s : List Sp} (h0 : fit8 k r n m t s q = 0) (ht : t.length ≤ 1000) : atoms k t s ≤ 1024 := by
  unfold atoms
  split
  · omega
  · split
    · rename_i h; have := idsL_len s (fit8_h3 h0 h).1; have := (fit8_h3 h0 h).2; omega
    · omega
theorem cFit9_call (r s c u : Int) (ops : List OpV) (nn : Nat) (hnn : nn = ops.length) (hl : ops.length ≤ 40) (hsz : ∀ o ∈ ops, o.t.length ≤ 1000 ∧ o.s.length ≤ 1024) (hw : ∀ o ∈ ops, wfC o) :
    SCallG GT Tryz.prog 39 [.agg (txL r s c u (.tr nn (encs opC ops)))] (.v (.int .i64 (fit9 s c u ops))) [.agg (txL r s c u (.tr nn (encs opC ops)))] := by
  subst hnn
  have hhe := cHead_call r s c u ops.length (encs opC ops)
  unfold fit9
  by_cases hd : 1 ≤ s ∧ s ≤ 268435456 ∧ 1 ≤ c ∧ c ≤ 1099511627776 ∧ 0 ≤ u ∧ u < 8
  · rw [decide_eq_true hd] at hhe
    by_cases hz : ops.length = 0
    · rw [if_pos (by omega)]
      refine SCallG.of_body' (G := GT) (TT := TT) (fun _ => false) [false] ttok Tryz.func39 rfl (Nat.le_of_ble_eq_true rfl) rfl fun fx hfx hgf => WK.top ?_
      simp only [impl, imp, argT, List.append_nil, List.map_nil, List.nil_append, show Tryz.f39.ntmps = 71 from rfl, Nat.zero_add, Nat.reduceAdd]
      repeat' (first | refine WK.seq ?_ | refine WK.reg ?_ | refine IL.nil ?_ | refine WK.skip ?_ | (with_reducible refine IL.wr ?_ ?_; focus exact cW) | refine IL.sg ttok ?_ | refine IL.nn ?_ | refine IL.cS ttok ent58 [.bor] true ?_ (hS := by exact hca) | refine IL.cS ttok ent65 [.bor] true ?_ (hS := by exact hhe) | ((first | ((first | refine IL.ag (fun h => ?_) (fun h => ?_) | refine IL.ap (fun h => ?_) (fun h => ?_)); (fail_if_success (focus (simp only [reduceCtorEq] at h)))) | refine WK.cn (fun h => ?_) (fun h => ?_)); all_goals first | (simp only [reduceCtorEq] at h; done) | (simp only [hsA, hsD, hsE, ne_eq] at h; first | done | (exfalso; omega; done) | skip) | skip))
      refine WK.gotoL (α := Nat × Int) 0 (rest := _) rfl (fun x => 0) (fun x => False) (fun x => ⟨71, [], []⟩) ?_ ?_
      · rintro _ ⟨⟩
      · intro hw0
        repeat' (first | refine WK.seq ?_ | refine WK.reg ?_ | refine IL.nil ?_ | refine WK.skip ?_ | (with_reducible refine IL.wr ?_ ?_; focus exact cW) | refine IL.sg ttok ?_ | refine IL.nn ?_ | refine IL.cS ttok ent58 [.bor] true ?_ (hS := by exact hca) | refine IL.cS ttok ent65 [.bor] true ?_ (hS := by exact hhe) | ((first | ((first | refine IL.ag (fun h => ?_) (fun h => ?_) | refine IL.ap (fun h => ?_) (fun h => ?_)); (fail_if_success (focus (simp only [reduceCtorEq] at h)))) | refine WK.cn (fun h => ?_) (fun h => ?_)); all_goals first | (simp only [reduceCtorEq] at h; done) | (simp only [hsA, hsD, hsE, ne_eq] at h; first | done | (exfalso; omega; done) | skip) | skip))
        all_goals try ((first | refine WK.ret ⟨.inr rfl, ?_⟩ | refine ⟨.inl rfl, ?_⟩ | refine ⟨.inl trivial, ?_⟩); refine Fin.o ?_ ?_ (h1 := by first | rfl | (simp only [go_sem, show Tryz.f39.results.toList = [.tmp 2] from rfl, reduceIte] <;> rfl)); rotate_left 1; (focus (first | rfl | skip)); all_goals try with_reducible rfl)
        all_goals skip
    · rw [if_neg (by omega)]
      by_cases h16 : 16 < ops.length
      · rw [if_pos h16]
        refine SCallG.of_body' (G := GT) (TT := TT) (fun _ => false) [false] ttok Tryz.func39 rfl (Nat.le_of_ble_eq_true rfl) rfl fun fx hfx hgf => WK.top ?_
        simp only [impl, imp, argT, List.append_nil, List.map_nil, List.nil_append, show Tryz.f39.ntmps = 71 from rfl, Nat.zero_add, Nat.reduceAdd]
        repeat' (first | refine WK.seq ?_ | refine WK.reg ?_ | refine IL.nil ?_ | refine WK.skip ?_ | (with_reducible refine IL.wr ?_ ?_; focus exact cW) | refine IL.sg ttok ?_ | refine IL.nn ?_ | refine IL.cS ttok ent58 [.bor] true ?_ (hS := by exact hca) | refine IL.cS ttok ent65 [.bor] true ?_ (hS := by exact hhe) | ((first | ((first | refine IL.ag (fun h => ?_) (fun h => ?_) | refine IL.ap (fun h => ?_) (fun h => ?_)); (fail_if_success (focus (simp only [reduceCtorEq] at h)))) | refine WK.cn (fun h => ?_) (fun h => ?_)); all_goals first | (simp only [reduceCtorEq] at h; done) | (simp only [hsA, hsD, hsE, ne_eq] at h; first | done | (exfalso; omega; done) | skip) | skip))
        refine WK.gotoL (α := Nat × Int) 0 (rest := _) rfl (fun x => 0) (fun x => False) (fun x => ⟨71, [], []⟩) ?_ ?_
        · rintro _ ⟨⟩
        · intro hw0
          repeat' (first | refine WK.seq ?_ | refine WK.reg ?_ | refine IL.nil ?_ | refine WK.skip ?_ | (with_reducible refine IL.wr ?_ ?_; focus exact cW) | refine IL.sg ttok ?_ | refine IL.nn ?_ | refine IL.cS ttok ent58 [.bor] true ?_ (hS := by exact hca) | refine IL.cS ttok ent65 [.bor] true ?_ (hS := by exact hhe) | ((first | ((first | refine IL.ag (fun h => ?_) (fun h => ?_) | refine IL.ap (fun h => ?_) (fun h => ?_)); (fail_if_success (focus (simp only [reduceCtorEq] at h)))) | refine WK.cn (fun h => ?_) (fun h => ?_)); all_goals first | (simp only [reduceCtorEq] at h; done) | (simp only [hsA, hsD, hsE, ne_eq] at h; first | done | (exfalso; omega; done) | skip) | skip))
          all_goals try ((first | refine WK.ret ⟨.inr rfl, ?_⟩ | refine ⟨.inl rfl, ?_⟩ | refine ⟨.inl trivial, ?_⟩); refine Fin.o ?_ ?_ (h1 := by first | rfl | (simp only [go_sem, show Tryz.f39.results.toList = [.tmp 2] from rfl, reduceIte] <;> rfl)); rotate_left 1; (focus (first | rfl | skip)); all_goals try with_reducible rfl)
          all_goals skip
      · rw [if_neg h16]
        generalize hG : fit9Go s ops.length ops (-1) = G
        refine SCallG.of_body' (G := GT) (TT := TT) (fun _ => false) [false] ttok Tryz.func39 rfl (Nat.le_of_ble_eq_true rfl) rfl fun fx hfx hgf => WK.top ?_
        simp only [impl, imp, argT, List.append_nil, List.map_nil, List.nil_append, show Tryz.f39.ntmps = 71 from rfl, Nat.zero_add, Nat.reduceAdd]
        repeat' (first | refine WK.seq ?_ | refine WK.reg ?_ | refine IL.nil ?_ | refine WK.skip ?_ | (with_reducible refine IL.wr ?_ ?_; focus exact cW) | refine IL.sg ttok ?_ | refine IL.nn ?_ | refine IL.cS ttok ent58 [.bor] true ?_ (hS := by exact hca) | refine IL.cS ttok ent65 [.bor] true ?_ (hS := by exact hhe) | ((first | ((first | refine IL.ag (fun h => ?_) (fun h => ?_) | refine IL.ap (fun h => ?_) (fun h => ?_)); (fail_if_success (focus (simp only [reduceCtorEq] at h)))) | refine WK.cn (fun h => ?_) (fun h => ?_)); all_goals first | (simp only [reduceCtorEq] at h; done) | (simp only [hsA, hsD, hsE, ne_eq] at h; first | done | (exfalso; omega; done) | skip) | skip))
        refine WK.gotoL (α := Nat × Int) 0 (rest := _) rfl (fun x => ops.length - x.1) (fun x => x.1 < ops.length ∧ -1 ≤ x.2 ∧ x.2 ≤ 268435456 ∧ fit9Go s ops.length (ops.drop x.1) x.2 = G)
          (fun x => ⟨71, [(1, .ptr 0 0 0), (3, .v (.int .u32 (x.2 + 1))), (4, .v (.int .i64 (x.1 : Int)))], [some ⟨false, 0, 1, false, txL r s c u (.tr ops.length (encs opC ops)), 0, false⟩]⟩) ?_ ?_
        · rintro ⟨i, last⟩ ⟨hi, hl0, hl1, hg⟩
          simp only at hi hl0 hl1 hg ⊢
          have hx : ops[i]? = some ops[i] := List.getElem?_eq_getElem hi
          have hoi := hsz _ (List.getElem_mem hi)
          have hwi := hw _ (List.getElem_mem hi)
          rw [List.drop_eq_getElem_cons hi, fit9Go] at hg
          have hle : i * 7 + 7 ≤ ops.length * 7 := by omega
          have hne : encs opC ops ≠ [] := encs_ne opC_length (by decide) hx
          generalize ops[i] = o at *
          obtain ⟨ok, or, on, om, ot, os, oq⟩ := o
          unfold wfC at hwi
          simp only at hoi hg hwi
          obtain ⟨b1, b2⟩ := hoi
          obtain ⟨w1, w2, w3, w4⟩ := hwi
          have hat : ((encs opC ops).drop (i * 7)).take 7 = [.v (.int .i64 ok), .v (.int .u16 or), .v (.int .u32 on), .v (.int .u32 om), .v (.string ⟨ot.toArray⟩), .tr os.length (encs spC os), .v (.int .u32 oq)] := encs_at opC_length hx
          have hf := cFit_call ok or on om oq ot os os.length rfl (by omega) (by omega) w1 w2 w3 w4
          by_cases h0 : fit8 ok or on om ot os oq = 0
          · rw [if_pos h0] at hg
            rw [h0] at hf
            have hca := cAtoms_call ok or on om oq ot os os.length rfl (by omega) (by omega) (fit8_h3 h0)
            have han := atoms_num h0
            have hab := atoms_le h0 (by omega)
            have hki := fit8_kind h0
            clear h0
            generalize atoms ok ot os = an at *
            by_cases c1 : 3 < ok ∧ (¬ ops.length = 1 ∨ s ≤ oq)
            · rw [if_pos c1] at hg
              subst hg
              have FX := And.intro hat hle
              repeat' (first | refine WK.seq ?_ | refine WK.reg ?_ | refine IL.nil ?_ | refine WK.skip ?_ | (with_reducible refine IL.wr ?_ ?_; focus exact cW) | refine IL.sgF ttok ?_ | refine IL.nn ?_ | refine IL.cSF ttok ent58 [.bor] true ?_ (hS := by exact hca) | refine IL.cSF ttok ent65 [.bor] true ?_ (hS := by exact hhe) | refine IL.cSGF hgf ttok ent66 [.bor] true ?_ (hS := by exact hf) | ((first | ((first | refine IL.ag (fun h => ?_) (fun h => ?_) | refine IL.ap (fun h => ?_) (fun h => ?_)); (fail_if_success (focus (simp only [reduceCtorEq] at h)))) | refine WK.cn (fun h => ?_) (fun h => ?_)); all_goals first | (simp only [reduceCtorEq] at h; done) | (simp only [hsA, hsD, hsE, ne_eq] at h; first | done | (exfalso; omega; done) | skip) | skip))
              all_goals try ((first | refine WK.ret ⟨.inr rfl, ?_⟩ | refine ⟨.inl rfl, ?_⟩ | refine ⟨.inl trivial, ?_⟩); refine Fin.o ?_ ?_ (h1 := by first | rfl | (simp only [go_sem, show Tryz.f39.results.toList = [.tmp 2] from rfl, reduceIte] <;> rfl)); rotate_left 1; (focus (first | rfl | skip)); all_goals try with_reducible rfl)
              all_goals try (exfalso; omega)
            · rw [if_neg c1] at hg
              by_cases c2 : 0 < (an : Int) ∧ 0 ≤ last ∧ ¬ om = last + 1
              · rw [if_pos c2] at hg
                subst hg
                have FX := And.intro hat hle
                repeat' (first | refine WK.seq ?_ | refine WK.reg ?_ | refine IL.nil ?_ | refine WK.skip ?_ | (with_reducible refine IL.wr ?_ ?_; focus exact cW) | refine IL.sgF ttok ?_ | refine IL.nn ?_ | refine IL.cSF ttok ent58 [.bor] true ?_ (hS := by exact hca) | refine IL.cSF ttok ent65 [.bor] true ?_ (hS := by exact hhe) | refine IL.cSGF hgf ttok ent66 [.bor] true ?_ (hS := by exact hf) | ((first | ((first | refine IL.ag (fun h => ?_) (fun h => ?_) | refine IL.ap (fun h => ?_) (fun h => ?_)); (fail_if_success (focus (simp only [reduceCtorEq] at h)))) | refine WK.cn (fun h => ?_) (fun h => ?_)); all_goals first | (simp only [reduceCtorEq] at h; done) | (simp only [hsA, hsD, hsE, ne_eq] at h; first | done | (exfalso; omega; done) | skip) | skip))
                all_goals try ((first | refine WK.ret ⟨.inr rfl, ?_⟩ | refine ⟨.inl rfl, ?_⟩ | refine ⟨.inl trivial, ?_⟩); refine Fin.o ?_ ?_ (h1 := by first | rfl | (simp only [go_sem, show Tryz.f39.results.toList = [.tmp 2] from rfl, reduceIte] <;> rfl)); rotate_left 1; (focus (first | rfl | skip)); all_goals try with_reducible rfl)
                all_goals try (exfalso; omega)
              · rw [if_neg c2] at hg
                by_cases c3 : 0 < (an : Int)
                · rw [if_pos c3] at hg
                  obtain ⟨n1, n2⟩ := han c3
                  have hwr : IntKind.u32.wrap (om + (an : Int)) = om + (an : Int) - 1 + 1 := by rw [wrap_u32 (by omega) (by omega)]; omega
                  have hwa : IntKind.u32.wrap (an : Int) = (an : Int) := wrap_u32 (by omega) (by omega)
                  rcases Nat.lt_or_ge (i + 1) ops.length with hn1 | hn1
                  · have FX := And.intro hat (And.intro hle hwa)
                    repeat' (first | refine WK.seq ?_ | refine WK.reg ?_ | refine IL.nil ?_ | refine WK.skip ?_ | (with_reducible refine IL.wr ?_ ?_; focus exact cW) | refine IL.sgF ttok ?_ | refine IL.nn ?_ | refine IL.cSF ttok ent58 [.bor] true ?_ (hS := by exact hca) | refine IL.cSF ttok ent65 [.bor] true ?_ (hS := by exact hhe) | refine IL.cSGF hgf ttok ent66 [.bor] true ?_ (hS := by exact hf) | ((first | ((first | refine IL.ag (fun h => ?_) (fun h => ?_) | refine IL.ap (fun h => ?_) (fun h => ?_)); (fail_if_success (focus (simp only [reduceCtorEq] at h)))) | refine WK.cn (fun h => ?_) (fun h => ?_)); all_goals first | (simp only [reduceCtorEq] at h; done) | (simp only [hsA, hsD, hsE, ne_eq] at h; first | done | (exfalso; omega; done) | skip) | skip))
                    all_goals try ((first | refine WK.ret ⟨.inr rfl, ?_⟩ | refine ⟨.inl rfl, ?_⟩ | refine ⟨.inl trivial, ?_⟩); refine Fin.o ?_ ?_ (h1 := by first | rfl | (simp only [go_sem, show Tryz.f39.results.toList = [.tmp 2] from rfl, reduceIte] <;> rfl)); rotate_left 1; (focus (first | rfl | skip)); all_goals try with_reducible rfl)
                    all_goals try (exfalso; omega)
                    all_goals (refine WK.goto ⟨rfl, (i + 1, om + (an : Int) - 1), by simp only; omega, ⟨hn1, by simp only; omega, by simp only; omega, hg⟩, ?_⟩; (refine Weak.renS [0] hfx rfl ?_ ?_ rfl <;> (simp only [go_sem, reduceIte, exists_eq_left', exists_eq_left, Blk.mk.injEq, txL, hwr, Int.sub_add_cancel] <;> (try and_intros) <;> first | rfl | omega)))
                  · rw [List.drop_of_length_le hn1, fit9Go] at hg
                    subst hg
                    have FX := And.intro hat (And.intro hle hwa)
                    repeat' (first | refine WK.seq ?_ | refine WK.reg ?_ | refine IL.nil ?_ | refine WK.skip ?_ | (with_reducible refine IL.wr ?_ ?_; focus exact cW) | refine IL.sgF ttok ?_ | refine IL.nn ?_ | refine IL.cSF ttok ent58 [.bor] true ?_ (hS := by exact hca) | refine IL.cSF ttok ent65 [.bor] true ?_ (hS := by exact hhe) | refine IL.cSGF hgf ttok ent66 [.bor] true ?_ (hS := by exact hf) | ((first | ((first | refine IL.ag (fun h => ?_) (fun h => ?_) | refine IL.ap (fun h => ?_) (fun h => ?_)); (fail_if_success (focus (simp only [reduceCtorEq] at h)))) | refine WK.cn (fun h => ?_) (fun h => ?_)); all_goals first | (simp only [reduceCtorEq] at h; done) | (simp only [hsA, hsD, hsE, ne_eq] at h; first | done | (exfalso; omega; done) | skip) | skip))
                    all_goals try ((first | refine WK.ret ⟨.inr rfl, ?_⟩ | refine ⟨.inl rfl, ?_⟩ | refine ⟨.inl trivial, ?_⟩); refine Fin.o ?_ ?_ (h1 := by first | rfl | (simp only [go_sem, show Tryz.f39.results.toList = [.tmp 2] from rfl, reduceIte] <;> rfl)); rotate_left 1; (focus (first | rfl | skip)); all_goals try with_reducible rfl)
                    all_goals try (exfalso; omega)
                · rw [if_neg c3] at hg
                  rcases Nat.lt_or_ge (i + 1) ops.length with hn1 | hn1
                  · have FX := And.intro hat hle
                    repeat' (first | refine WK.seq ?_ | refine WK.reg ?_ | refine IL.nil ?_ | refine WK.skip ?_ | (with_reducible refine IL.wr ?_ ?_; focus exact cW) | refine IL.sgF ttok ?_ | refine IL.nn ?_ | refine IL.cSF ttok ent58 [.bor] true ?_ (hS := by exact hca) | refine IL.cSF ttok ent65 [.bor] true ?_ (hS := by exact hhe) | refine IL.cSGF hgf ttok ent66 [.bor] true ?_ (hS := by exact hf) | ((first | ((first | refine IL.ag (fun h => ?_) (fun h => ?_) | refine IL.ap (fun h => ?_) (fun h => ?_)); (fail_if_success (focus (simp only [reduceCtorEq] at h)))) | refine WK.cn (fun h => ?_) (fun h => ?_)); all_goals first | (simp only [reduceCtorEq] at h; done) | (simp only [hsA, hsD, hsE, ne_eq] at h; first | done | (exfalso; omega; done) | skip) | skip))
                    all_goals try ((first | refine WK.ret ⟨.inr rfl, ?_⟩ | refine ⟨.inl rfl, ?_⟩ | refine ⟨.inl trivial, ?_⟩); refine Fin.o ?_ ?_ (h1 := by first | rfl | (simp only [go_sem, show Tryz.f39.results.toList = [.tmp 2] from rfl, reduceIte] <;> rfl)); rotate_left 1; (focus (first | rfl | skip)); all_goals try with_reducible rfl)
                    all_goals try (exfalso; omega)
                    all_goals (refine WK.goto ⟨rfl, (i + 1, last), by simp only; omega, ⟨hn1, hl0, hl1, hg⟩, ?_⟩; (refine Weak.renS [0] hfx rfl ?_ ?_ rfl <;> (simp only [go_sem, reduceIte, exists_eq_left', exists_eq_left, Blk.mk.injEq, txL] <;> (try and_intros) <;> first | rfl | omega)))
                  · rw [List.drop_of_length_le hn1, fit9Go] at hg
                    subst hg
                    have FX := And.intro hat hle
                    repeat' (first | refine WK.seq ?_ | refine WK.reg ?_ | refine IL.nil ?_ | refine WK.skip ?_ | (with_reducible refine IL.wr ?_ ?_; focus exact cW) | refine IL.sgF ttok ?_ | refine IL.nn ?_ | refine IL.cSF ttok ent58 [.bor] true ?_ (hS := by exact hca) | refine IL.cSF ttok ent65 [.bor] true ?_ (hS := by exact hhe) | refine IL.cSGF hgf ttok ent66 [.bor] true ?_ (hS := by exact hf) | ((first | ((first | refine IL.ag (fun h => ?_) (fun h => ?_) | refine IL.ap (fun h => ?_) (fun h => ?_)); (fail_if_success (focus (simp only [reduceCtorEq] at h)))) | refine WK.cn (fun h => ?_) (fun h => ?_)); all_goals first | (simp only [reduceCtorEq] at h; done) | (simp only [hsA, hsD, hsE, ne_eq] at h; first | done | (exfalso; omega; done) | skip) | skip))
                    all_goals try ((first | refine WK.ret ⟨.inr rfl, ?_⟩ | refine ⟨.inl rfl, ?_⟩ | refine ⟨.inl trivial, ?_⟩); refine Fin.o ?_ ?_ (h1 := by first | rfl | (simp only [go_sem, show Tryz.f39.results.toList = [.tmp 2] from rfl, reduceIte] <;> rfl)); rotate_left 1; (focus (first | rfl | skip)); all_goals try with_reducible rfl)
                    all_goals try (exfalso; omega)
          · rw [if_neg h0] at hg
            subst hg
            generalize fit8 ok or on om ot os oq = e at *
            have FX := And.intro hat hle
            repeat' (first | refine WK.seq ?_ | refine WK.reg ?_ | refine IL.nil ?_ | refine WK.skip ?_ | (with_reducible refine IL.wr ?_ ?_; focus exact cW) | refine IL.sgF ttok ?_ | refine IL.nn ?_ | refine IL.cSF ttok ent58 [.bor] true ?_ (hS := by exact hca) | refine IL.cSF ttok ent65 [.bor] true ?_ (hS := by exact hhe) | refine IL.cSGF hgf ttok ent66 [.bor] true ?_ (hS := by exact hf) | ((first | ((first | refine IL.ag (fun h => ?_) (fun h => ?_) | refine IL.ap (fun h => ?_) (fun h => ?_)); (fail_if_success (focus (simp only [reduceCtorEq] at h)))) | refine WK.cn (fun h => ?_) (fun h => ?_)); all_goals first | (simp only [reduceCtorEq] at h; done) | (simp only [hsA, hsD, hsE, ne_eq] at h; first | done | (exfalso; omega; done) | skip) | skip))
            all_goals try ((first | refine WK.ret ⟨.inr rfl, ?_⟩ | refine ⟨.inl rfl, ?_⟩ | refine ⟨.inl trivial, ?_⟩); refine Fin.o ?_ ?_ (h1 := by first | rfl | (simp only [go_sem, show Tryz.f39.results.toList = [.tmp 2] from rfl, reduceIte] <;> rfl)); rotate_left 1; (focus (first | rfl | skip)); all_goals try with_reducible rfl)
            all_goals try (exfalso; omega)
        · intro hw0
          repeat' (first | refine WK.seq ?_ | refine WK.reg ?_ | refine IL.nil ?_ | refine WK.skip ?_ | (with_reducible refine IL.wr ?_ ?_; focus exact cW) | refine IL.sg ttok ?_ | refine IL.nn ?_ | refine IL.cS ttok ent58 [.bor] true ?_ (hS := by exact hca) | refine IL.cS ttok ent65 [.bor] true ?_ (hS := by exact hhe) | refine IL.cSG hgf ttok ent66 [.bor] true ?_ (hS := by exact hf) | ((first | ((first | refine IL.ag (fun h => ?_) (fun h => ?_) | refine IL.ap (fun h => ?_) (fun h => ?_)); (fail_if_success (focus (simp only [reduceCtorEq] at h)))) | refine WK.cn (fun h => ?_) (fun h => ?_)); all_goals first | (simp only [reduceCtorEq] at h; done) | (simp only [hsA, hsD, hsE, ne_eq] at h; first | done | (exfalso; omega; done) | skip) | skip))
          refine WK.label ?_
          refine hw0 _ (0, -1) ⟨by omega, by decide, by decide, by simpa using hG⟩ ?_
          (refine Weak.renS [0] hfx rfl ?_ ?_ rfl <;> (simp only [go_sem, reduceIte, exists_eq_left', exists_eq_left, Blk.mk.injEq, txL] <;> (try and_intros) <;> first | rfl | omega))
  · rw [decide_eq_false hd] at hhe
    rw [if_pos (by omega)]
    refine SCallG.of_body' (G := GT) (TT := TT) (fun _ => false) [false] ttok Tryz.func39 rfl (Nat.le_of_ble_eq_true rfl) rfl fun fx hfx hgf => WK.top ?_
    simp only [impl, imp, argT, List.append_nil, List.map_nil, List.nil_append, show Tryz.f39.ntmps = 71 from rfl, Nat.zero_add, Nat.reduceAdd]
    repeat' (first | refine WK.seq ?_ | refine WK.reg ?_ | refine IL.nil ?_ | refine WK.skip ?_ | (with_reducible refine IL.wr ?_ ?_; focus exact cW) | refine IL.sg ttok ?_ | refine IL.nn ?_ | refine IL.cS ttok ent58 [.bor] true ?_ (hS := by exact hca) | refine IL.cS ttok ent65 [.bor] true ?_ (hS := by exact hhe) | refine IL.cSG hgf ttok ent66 [.bor] true ?_ (hS := by exact hf) | ((first | ((first | refine IL.ag (fun h => ?_) (fun h => ?_) | refine IL.ap (fun h => ?_) (fun h => ?_)); (fail_if_success (focus (simp only [reduceCtorEq] at h)))) | refine WK.cn (fun h => ?_) (fun h => ?_)); all_goals first | (simp only [reduceCtorEq] at h; done) | (simp only [hsA, hsD, hsE, ne_eq] at h; first | done | (exfalso; omega; done) | skip) | skip))
    refine WK.gotoL (α := Nat × Int) 0 (rest := _) rfl (fun x => 0) (fun x => False) (fun x => ⟨71, [], []⟩) ?_ ?_
    · rintro _ ⟨⟩
    · intro hw0
      repeat' (first | refine WK.seq ?_ | refine WK.reg ?_ | refine IL.nil ?_ | refine WK.skip ?_ | (with_reducible refine IL.wr ?_ ?_; focus exact cW) | refine IL.sg ttok ?_ | refine IL.nn ?_ | refine IL.cS ttok ent58 [.bor] true ?_ (hS := by exact hca) | refine IL.cS ttok ent65 [.bor] true ?_ (hS := by exact hhe) | refine IL.cSG hgf ttok ent66 [.bor] true ?_ (hS := by exact hf) | ((first | ((first | refine IL.ag (fun h => ?_) (fun h => ?_) | refine IL.ap (fun h => ?_) (fun h => ?_)); (fail_if_success (focus (simp only [reduceCtorEq] at h)))) | refine WK.cn (fun h => ?_) (fun h => ?_)); all_goals first | (simp only [reduceCtorEq] at h; done) | (simp only [hsA, hsD, hsE, ne_eq] at h; first | done | (exfalso; omega; done) | skip) | skip))
      all_goals try ((first | refine WK.ret ⟨.inr rfl, ?_⟩ | refine ⟨.inl rfl, ?_⟩ | refine ⟨.inl trivial, ?_⟩); refine Fin.o ?_ ?_ (h1 := by first | rfl | (simp only [go_sem, show Tryz.f39.results.toList = [.tmp 2] from rfl, reduceIte] <;> rfl)); rotate_left 1; (focus (first | rfl | skip)); all_goals try with_reducible rfl)
      all_goals skip
end Go.Proofs.YtclhjcbnpdlgbaaGreatDoor
/- package vector: where a replica stands. -/
namespace Go.Proofs.YtclhjcbnpdlgbaaGreatDoor.Vc
open Go Go.Lift
set_option maxHeartbeats 4000000
set_option linter.unusedSimpArgs false
set_option linter.unusedVariables false
attribute [local irreducible] WK IL IP IG IW DW

abbrev Ve := Int × Int
def veC (a : Ve) : List IV := [.v (.int .u16 a.1), .v (.int .u32 a.2)]
instance : Cells veC 2 := ⟨fun _ => rfl, fun _ => rfl, fun _ => rfl⟩
theorem veC_length (a : Ve) : (veC a).length = 2 := rfl
def Srt (l : List Ve) : Prop := l.Pairwise fun a b => a.1 < b.1
def pos (l : List Ve) (r : Int) : Nat := l.countP fun x => decide (x.1 < r)
theorem pos_le (l : List Ve) (r : Int) : pos l r ≤ l.length := List.countP_le_length
theorem pos_iff : ∀ {l : List Ve} {r : Int}, Srt l → ∀ k (x : Ve), l[k]? = some x → (x.1 < r ↔ k < pos l r)
  | [], r, _, k, x, h => by simp at h
  | a :: l, r, hs, k, x, h => by
    obtain ⟨h1, h2⟩ := List.pairwise_cons.1 hs
    have ih := fun k x => pos_iff (r := r) h2 k x
    unfold pos at *
    rw [List.countP_cons]
    by_cases ha : a.1 < r
    · rw [if_pos (by simpa using ha)]
      cases k with
      | zero => simp at h; subst h; exact ⟨fun _ => by omega, fun _ => ha⟩
      | succ k =>
        have := ih k x (by simpa using h)
        omega
    · have h0 : l.countP (fun x => decide (x.1 < r)) = 0 := by
        rw [List.countP_eq_zero]
        intro y hy
        have := h1 y hy
        simp only [decide_eq_true_eq]; omega
      rw [if_neg (by simpa using ha), h0]
      cases k with
      | zero => simp at h; subst h; exact ⟨fun h => absurd h ha, fun h => by omega⟩
      | succ k =>
        have hx : x ∈ l := List.mem_of_getElem? (by simpa using h)
        have := h1 x hx
        exact ⟨fun h => by omega, fun h => by omega⟩
def has (l : List Ve) (r : Int) : Bool := match l[pos l r]? with
  | some x => decide (x.1 = r)
  | none => false
theorem find1_call (x1 x2 r : Int) (h : 0 ≤ x1 ∧ x1 ≤ 65535) (hr : 0 ≤ r ∧ r ≤ 65535) : SCall Tryz.prog 89 [.agg [.v (.int .u16 x1), .v (.int .u32 x2)], .v (.int .u16 r)] (.v (.int .i64 (x1 - r))) [.agg [.v (.int .u16 x1), .v (.int .u32 x2)], .v (.int .u16 r)] := by
  refine SCall.of_body' (TT := TT) (fun _ => false) [false, false] ttok Tryz.func89 rfl (Nat.le_of_ble_eq_true rfl) rfl fun fx hfx => WK.top ?_
  simp only [impl, imp, argT, List.append_nil, List.map_nil, List.nil_append, show Tryz.f89.ntmps = 11 from rfl, Nat.zero_add, Nat.reduceAdd]
  repeat' (first | refine WK.seq ?_ | refine WK.reg ?_ | refine IL.nil ?_ | (with_reducible refine IL.wr ?_ ?_; focus exact cW) | refine IL.sg ttok ?_)
  all_goals try ((first | refine WK.ret ⟨.inr rfl, ?_⟩ | refine ⟨.inl rfl, ?_⟩ | refine ⟨.inl trivial, ?_⟩); refine Fin.o ?_ ?_ (h1 := by first | rfl | (simp only [go_sem, show Tryz.f89.results.toList = [.tmp 4] from rfl, reduceIte] <;> rfl)); rotate_left 1; (focus (first | rfl | skip)); all_goals try with_reducible rfl)
  all_goals skip
theorem bsf_call (l : List Ve) (r : Int) (hs : Srt l) (hl : ∀ x ∈ l, 0 ≤ x.1 ∧ x.1 ≤ 65535) (hr : 0 ≤ r ∧ r ≤ 65535) (hn : l.length ≤ 1000000000000) :
    SCallF [] Tryz.prog 88 [none, none, some (89, 0)] [.tr l.length (encs veC l), .v (.int .u16 r)] (.tup [.v (.int .i64 (pos l r)), .v (.bool (has l r))]) [.tr l.length (encs veC l), .v (.int .u16 r)] := by
  have hp := pos_le l r
  refine SCallF.of_body' (G := []) [none, none, some (89, 0)] (TT := TT) (fun k => decide (k < 0)) [false, false] ttok Tryz.func88 rfl (Nat.le_of_ble_eq_true rfl) rfl fun fx hfx hgf => WK.top ?_
  simp only [impl, imp, argT, packIV, pk, List.take_succ_cons, List.drop_succ_cons, List.take_zero, List.drop_zero, List.append_nil, List.map_nil, List.map_cons, List.nil_append, List.cons_append, List.length_cons, List.length_nil, show Tryz.f88.ntmps = 49 from rfl, Nat.zero_add, Nat.reduceAdd]
  repeat' (first | refine WK.seq ?_ | refine WK.reg ?_ | refine IL.nil ?_ | refine WK.skip ?_ | refine WK.block ?_ | refine WK.exit_here ?_ | refine WK.e1 ?_ | refine WK.e2 ?_ | (with_reducible refine IL.wr ?_ ?_; focus exact cW) | refine IL.sg ttok ?_ | refine IL.nn ?_ | refine IL.cS ttok ent89 [.bor, .bor] true ?_ (hS := by exact hcm) | ((first | ((first | refine IL.ag (fun h => ?_) (fun h => ?_) | refine IL.ap (fun h => ?_) (fun h => ?_)); (fail_if_success (focus (simp only [reduceCtorEq] at h)))) | refine WK.cn (fun h => ?_) (fun h => ?_)); all_goals first | (simp only [reduceCtorEq] at h; done) | (simp only [hsA, hsD, hsE, ne_eq] at h; first | done | (exfalso; omega; done) | skip) | skip))
  refine WK.whileS (α := Nat × Nat) (fun x => x.2 - x.1) (fun x => x.1 ≤ pos l r ∧ pos l r ≤ x.2 ∧ x.2 ≤ l.length) (fun x => ⟨49, [(0, .tr l.length (encs veC l)), (1, .v (.int .u16 r)), (2, .fn (.func 89) []), (8, .v (.int .i64 l.length)), (9, .v (.int .i64 (x.1 : Nat))), (10, .v (.int .i64 (x.2 : Nat)))], []⟩) (0, l.length) ⟨⟨Nat.zero_le _, hp, Nat.le_refl _⟩, ?_⟩ ?_
  · (refine Weak.renS [] hfx rfl ?_ ?_ rfl <;> (simp only [go_sem, reduceIte, exists_eq_left', exists_eq_left, Blk.mk.injEq] <;> (try and_intros) <;> first | rfl | omega))
  · rintro ⟨i, j⟩ ⟨h1, h2, h3⟩
    simp only at h1 h2 h3
    by_cases hij : i < j
    · have hh : (i + j) / 2 < l.length := by omega
      have hx : l[(i + j) / 2]? = some l[(i + j) / 2] := List.getElem?_eq_getElem hh
      have hpi := pos_iff hs _ _ hx (r := r)
      have hcm := find1_call l[(i + j) / 2].1 l[(i + j) / 2].2 r (hl _ (List.getElem_mem hh)) hr
      have hb1 := hl _ (List.getElem_mem hh)
      have hat : ((encs veC l).drop ((i + j) / 2 * 2)).take 2 = [.v (.int .u16 l[(i + j) / 2].1), .v (.int .u32 l[(i + j) / 2].2)] := encs_at veC_length hx
      have hle : (i + j) / 2 * 2 + 2 ≤ l.length * 2 := by omega
      have hne : encs veC l ≠ [] := encs_ne veC_length (by decide) hx
      have hw : IntKind.i64.wrap ((i : Int) + (j : Int)) = (i : Int) + (j : Int) := wrap_i64 (by omega) (by omega)
      have hsh : ((i : Int) + (j : Int)).fdiv (2 ^ min 1 64) = (((i + j) / 2 : Nat) : Int) := by
        rw [show min 1 64 = 1 from rfl, Int.fdiv_eq_ediv_of_nonneg _ (by decide)]; omega
      have hsh2 : ((i : Int) + (j : Int)).fdiv (2 ^ 1) = (((i + j) / 2 : Nat) : Int) := by
        rw [Int.fdiv_eq_ediv_of_nonneg _ (by decide)]; omega
      generalize l[(i + j) / 2] = x at *
      generalize hm : (i + j) / 2 = m at *
      have FX := And.intro hat (And.intro hle (And.intro hsh hsh2))
      repeat' (first | refine WK.seq ?_ | refine WK.reg ?_ | refine IL.nil ?_ | refine WK.skip ?_ | refine WK.block ?_ | refine WK.exit_here ?_ | refine WK.e1 ?_ | refine WK.e2 ?_ | (with_reducible refine IL.wr ?_ ?_; focus exact cW) | refine IL.sgF ttok ?_ | refine IL.nn ?_ | refine IL.cSF ttok ent89 [.bor, .bor] true ?_ (hS := by exact hcm) | ((first | ((first | refine IL.ag (fun h => ?_) (fun h => ?_) | refine IL.ap (fun h => ?_) (fun h => ?_)); (fail_if_success (focus (simp only [reduceCtorEq] at h)))) | refine WK.cn (fun h => ?_) (fun h => ?_)); all_goals first | (simp only [reduceCtorEq] at h; done) | (simp only [hsA, hsD, hsE, ne_eq] at h; first | done | (exfalso; omega; done) | skip) | skip))
      · refine ⟨(m + 1, j), by simp only; omega, ⟨by simp only; omega, h2, h3⟩, ?_⟩
        (refine Weak.renS [] hfx rfl ?_ ?_ rfl <;> (simp only [go_sem, reduceIte, exists_eq_left', exists_eq_left, Blk.mk.injEq] <;> (try and_intros) <;> first | rfl | omega))
      · refine ⟨(i, m), by simp only; omega, ⟨h1, by simp only; omega, by simp only; omega⟩, ?_⟩
        (refine Weak.renS [] hfx rfl ?_ ?_ rfl <;> (simp only [go_sem, reduceIte, exists_eq_left', exists_eq_left, Blk.mk.injEq] <;> (try and_intros) <;> first | rfl | omega))
    · obtain rfl : i = pos l r := by omega
      obtain rfl : j = pos l r := by omega
      unfold has
      by_cases hp2 : pos l r < l.length
      · have hx : l[pos l r]? = some l[pos l r] := List.getElem?_eq_getElem hp2
        have hcm := find1_call l[pos l r].1 l[pos l r].2 r (hl _ (List.getElem_mem hp2)) hr
        have hb1 := hl _ (List.getElem_mem hp2)
        have hat : ((encs veC l).drop (pos l r * 2)).take 2 = [.v (.int .u16 l[pos l r].1), .v (.int .u32 l[pos l r].2)] := encs_at veC_length hx
        have hle : pos l r * 2 + 2 ≤ l.length * 2 := by omega
        have hne : encs veC l ≠ [] := encs_ne veC_length (by decide) hx
        rw [hx]
        have hd : (l[pos l r].1 - r == 0) = decide (l[pos l r].1 = r) := by
          by_cases h : l[pos l r].1 = r
          · rw [decide_eq_true h]; simp [h]
          · rw [decide_eq_false h]; simp; omega
        generalize l[pos l r] = x at *
        generalize pos l r = m at *
        have FX := And.intro hat (And.intro hle hd)
        repeat' (first | refine WK.seq ?_ | refine WK.reg ?_ | refine IL.nil ?_ | refine WK.skip ?_ | refine WK.block ?_ | refine WK.exit_here ?_ | refine WK.e1 ?_ | refine WK.e2 ?_ | (with_reducible refine IL.wr ?_ ?_; focus exact cW) | refine IL.sgF ttok ?_ | refine IL.nn ?_ | refine IL.cSF ttok ent89 [.bor, .bor] true ?_ (hS := by exact hcm) | ((first | ((first | refine IL.ag (fun h => ?_) (fun h => ?_) | refine IL.ap (fun h => ?_) (fun h => ?_)); (fail_if_success (focus (simp only [reduceCtorEq] at h)))) | refine WK.cn (fun h => ?_) (fun h => ?_)); all_goals first | (simp only [reduceCtorEq] at h; done) | (simp only [hsA, hsD, hsE, ne_eq] at h; first | done | (exfalso; omega; done) | skip) | skip))
        all_goals try ((first | refine WK.ret ⟨.inr rfl, ?_⟩ | refine ⟨.inl rfl, ?_⟩ | refine ⟨.inl trivial, ?_⟩); refine Fin.o ?_ ?_ (h1 := by first | rfl | (simp only [go_sem, show Tryz.f88.results.toList = [.tmp 6, .tmp 7] from rfl, reduceIte] <;> rfl)); rotate_left 1; (focus (first | rfl | skip)); all_goals try with_reducible rfl)
        all_goals skip
      · rw [List.getElem?_eq_none (by omega)]
        generalize pos l r = m at *
        repeat' (first | refine WK.seq ?_ | refine WK.reg ?_ | refine IL.nil ?_ | refine WK.skip ?_ | refine WK.block ?_ | refine WK.exit_here ?_ | refine WK.e1 ?_ | refine WK.e2 ?_ | (with_reducible refine IL.wr ?_ ?_; focus exact cW) | refine IL.sg ttok ?_ | refine IL.nn ?_ | refine IL.cS ttok ent89 [.bor, .bor] true ?_ (hS := by exact hcm) | ((first | ((first | refine IL.ag (fun h => ?_) (fun h => ?_) | refine IL.ap (fun h => ?_) (fun h => ?_)); (fail_if_success (focus (simp only [reduceCtorEq] at h)))) | refine WK.cn (fun h => ?_) (fun h => ?_)); all_goals first | (simp only [reduceCtorEq] at h; done) | (simp only [hsA, hsD, hsE, ne_eq] at h; first | done | (exfalso; omega; done) | skip) | skip))
        all_goals try ((first | refine WK.ret ⟨.inr rfl, ?_⟩ | refine ⟨.inl rfl, ?_⟩ | refine ⟨.inl trivial, ?_⟩); refine Fin.o ?_ ?_ (h1 := by first | rfl | (simp only [go_sem, show Tryz.f88.results.toList = [.tmp 6, .tmp 7] from rfl, reduceIte] <;> rfl)); rotate_left 1; (focus (first | rfl | skip)); all_goals try with_reducible rfl)
        all_goals skip
theorem find_call (l : List Ve) (r : Int) (hs : Srt l) (hl : ∀ x ∈ l, 0 ≤ x.1 ∧ x.1 ≤ 65535) (hr : 0 ≤ r ∧ r ≤ 65535) (hn : l.length ≤ 1000000000000) :
    SCall Tryz.prog 64 [.tr l.length (encs veC l), .v (.int .u16 r)] (.tup [.v (.int .i64 (pos l r)), .v (.bool (has l r))]) [.tr l.length (encs veC l), .v (.int .u16 r)] := by
  refine SCallG.toS ?_
  refine SCallG.of_body' (G := []) (TT := TT) (fun _ => false) [false, false] ttok Tryz.func64 rfl (Nat.le_of_ble_eq_true rfl) rfl fun fx hfx hgf => WK.top ?_
  simp only [impl, imp, argT, List.append_nil, List.map_nil, List.nil_append, show Tryz.f64.ntmps = 11 from rfl, Nat.zero_add, Nat.reduceAdd]
  repeat' (first | refine WK.seq ?_ | refine WK.reg ?_ | refine IL.nil ?_ | (with_reducible refine IL.wr ?_ ?_; focus exact cW) | refine IL.sg ttok ?_ | (refine IL.callSF [none, none, some (89, 0)] hgf (f := 88) (xs := ?_) (A := ?_) (A' := ?_) (rr := ?_) (σ' := ?_) (bs := ?_) (ks := ?_) (sets := ?_) (pushes := ?_) ttok ent88 [.bor, .bor] true ?_ ?_ ?_ ?_ ?_ ?_ ?_ ?_ ?_ ?_ (fun K hK => ?_) ?_; rotate_left 9; (focus exact cG); (focus rfl); (focus rfl); (focus (first | rfl | (simp only [go_sem, reduceIte] <;> rfl))); (focus (exact bsf_call _ _ hs hl hr hn)); (focus rfl); (focus rfl); (focus (first | rfl | simp only [go_sem])); (focus (first | rfl | (simp only [go_sem, reduceIte] <;> rfl))); (focus simp); (focus (simp only [go_sem, reduceIte]; exact cK hK))))
  all_goals try ((first | refine WK.ret ⟨.inr rfl, ?_⟩ | refine ⟨.inl rfl, ?_⟩ | refine ⟨.inl trivial, ?_⟩); refine Fin.o ?_ ?_ (h1 := by first | rfl | (simp only [go_sem, show Tryz.f64.results.toList = [.tmp 4, .tmp 5] from rfl, reduceIte] <;> rfl)); rotate_left 1; (focus (first | rfl | skip)); all_goals try with_reducible rfl)
  all_goals skip
end Go.Proofs.YtclhjcbnpdlgbaaGreatDoor.Vc
/- package vector, and the document's: what is known, what is lacked. -/
namespace Go.Proofs.YtclhjcbnpdlgbaaGreatDoor.Vc
open Go Go.Lift
set_option maxHeartbeats 4000000
set_option linter.unusedSimpArgs false
set_option linter.unusedVariables false
attribute [local irreducible] WK IL IP IG IW DW

def getV (l : List Ve) (r : Int) : Int := match l[pos l r]? with
  | some x => if x.1 = r then x.2 else 0
  | none => 0
def okVe (l : List Ve) : Prop := ∀ x ∈ l, (0 ≤ x.1 ∧ x.1 ≤ 65535) ∧ (0 ≤ x.2 ∧ x.2 ≤ 268435456)
theorem okVe.r {l : List Ve} (h : okVe l) : ∀ x ∈ l, 0 ≤ x.1 ∧ x.1 ≤ 65535 := fun x hx => (h x hx).1
theorem getV_bd {l : List Ve} (h : okVe l) (r : Int) : 0 ≤ getV l r ∧ getV l r ≤ 268435456 := by
  unfold getV
  split
  · rename_i x hx
    have := (h x (List.mem_of_getElem? hx)).2
    split <;> omega
  · omega
theorem srt_lt {l : List Ve} (hs : Srt l) {i j : Nat} {x y : Ve} (hij : i < j) (hx : l[i]? = some x) (hy : l[j]? = some y) : x.1 < y.1 := by
  obtain ⟨h1, h2⟩ := List.getElem?_eq_some_iff.1 hx
  obtain ⟨h3, h4⟩ := List.getElem?_eq_some_iff.1 hy
  have := List.pairwise_iff_getElem.1 hs i j h1 h3 hij
  rw [h2, h4] at this; exact this
theorem getV_at {l : List Ve} {r : Int} {k : Nat} {x : Ve} (hs : Srt l) (hk : l[k]? = some x) (hr : x.1 = r) : getV l r = x.2 := by
  have h1 := pos_iff hs k x hk (r := r)
  have hkp : pos l r ≤ k := by omega
  rcases Nat.lt_or_ge (pos l r) k with h | h
  · exfalso
    have hlt : pos l r < l.length := by have := (List.getElem?_eq_some_iff.1 hk).1; omega
    have hp : l[pos l r]? = some l[pos l r] := List.getElem?_eq_getElem hlt
    have h2 := pos_iff hs _ _ hp (r := r)
    have h3 := srt_lt hs h hp hk
    omega
  · have : pos l r = k := by omega
    unfold getV
    rw [this, hk]
    simp only
    rw [if_pos hr]
theorem getV_none {l : List Ve} {r : Int} (h : ∀ x ∈ l, x.1 ≠ r) : getV l r = 0 := by
  unfold getV
  split
  · rename_i x hx
    rw [if_neg (h x (List.mem_of_getElem? hx))]
  · rfl
theorem get_call (l : List Ve) (r : Int) (hs : Srt l) (hl : ∀ x ∈ l, 0 ≤ x.1 ∧ x.1 ≤ 65535) (hr : 0 ≤ r ∧ r ≤ 65535) (hn : l.length ≤ 1000000000000) :
    SCall Tryz.prog 38 [.tr l.length (encs veC l), .v (.int .u16 r)] (.v (.int .u32 (getV l r))) [.tr l.length (encs veC l), .v (.int .u16 r)] := by
  unfold getV
  have hp := pos_le l r
  by_cases hp2 : pos l r < l.length
  · have hx : l[pos l r]? = some l[pos l r] := List.getElem?_eq_getElem hp2
    have hhas : has l r = decide (l[pos l r].1 = r) := by unfold has; rw [hx]
    have hfc := find_call l r hs hl hr hn
    rw [hx]
    simp only
    have hat : (encs veC l)[pos l r * 2 + 1]? = some (.v (.int .u32 l[pos l r].2)) := encs_get veC_length hx (by decide)
    have hle : pos l r * 2 + 2 ≤ l.length * 2 := by omega
    have hne : encs veC l ≠ [] := encs_ne veC_length (by decide) hx
    by_cases h : l[pos l r].1 = r
    · rw [if_pos h]
      rw [hhas, decide_eq_true h] at hfc
      clear hhas h hx
      generalize l[pos l r] = x at *
      generalize pos l r = m at *
      refine SCall.of_body' (TT := TT) (fun _ => false) [false, false] ttok Tryz.func38 rfl (Nat.le_of_ble_eq_true rfl) rfl fun fx hfx => WK.top ?_
      simp only [impl, imp, argT, List.append_nil, List.map_nil, List.nil_append, show Tryz.f38.ntmps = 19 from rfl, Nat.zero_add, Nat.reduceAdd]
      have FX := And.intro hat hle
      repeat' (first | refine WK.seq ?_ | refine WK.reg ?_ | refine IL.nil ?_ | refine WK.skip ?_ | (with_reducible refine IL.wr ?_ ?_; focus exact cW) | refine IL.sgF ttok ?_ | refine IL.cSF ttok ent64 [.bor, .bor] true ?_ (hS := by exact hfc) | (refine WK.cn (fun h => ?_) (fun h => ?_); all_goals first | (simp only [reduceCtorEq] at h; done) | (simp only [hsA, hsD, hsE, ne_eq] at h; first | done | (exfalso; omega; done) | skip) | skip))
      all_goals try ((first | refine WK.ret ⟨.inr rfl, ?_⟩ | refine ⟨.inl rfl, ?_⟩ | refine ⟨.inl trivial, ?_⟩); refine Fin.o ?_ ?_ (h1 := by first | rfl | (simp only [go_sem, show Tryz.f38.results.toList = [.tmp 4] from rfl, reduceIte] <;> rfl)); rotate_left 1; (focus (first | rfl | skip)); all_goals try with_reducible rfl)
      all_goals skip
    · rw [if_neg h]
      rw [hhas, decide_eq_false h] at hfc
      clear hhas h hx
      generalize l[pos l r] = x at *
      generalize pos l r = m at *
      refine SCall.of_body' (TT := TT) (fun _ => false) [false, false] ttok Tryz.func38 rfl (Nat.le_of_ble_eq_true rfl) rfl fun fx hfx => WK.top ?_
      simp only [impl, imp, argT, List.append_nil, List.map_nil, List.nil_append, show Tryz.f38.ntmps = 19 from rfl, Nat.zero_add, Nat.reduceAdd]
      have FX := And.intro hat hle
      repeat' (first | refine WK.seq ?_ | refine WK.reg ?_ | refine IL.nil ?_ | refine WK.skip ?_ | (with_reducible refine IL.wr ?_ ?_; focus exact cW) | refine IL.sgF ttok ?_ | refine IL.cSF ttok ent64 [.bor, .bor] true ?_ (hS := by exact hfc) | (refine WK.cn (fun h => ?_) (fun h => ?_); all_goals first | (simp only [reduceCtorEq] at h; done) | (simp only [hsA, hsD, hsE, ne_eq] at h; first | done | (exfalso; omega; done) | skip) | skip))
      all_goals try ((first | refine WK.ret ⟨.inr rfl, ?_⟩ | refine ⟨.inl rfl, ?_⟩ | refine ⟨.inl trivial, ?_⟩); refine Fin.o ?_ ?_ (h1 := by first | rfl | (simp only [go_sem, show Tryz.f38.results.toList = [.tmp 4] from rfl, reduceIte] <;> rfl)); rotate_left 1; (focus (first | rfl | skip)); all_goals try with_reducible rfl)
      all_goals skip
  · have hx := List.getElem?_eq_none (l := l) (i := pos l r) (by omega)
    have hhas : has l r = false := by unfold has; rw [hx]
    have hfc := find_call l r hs hl hr hn
    rw [hhas] at hfc
    rw [hx]
    simp only
    refine SCall.of_body' (TT := TT) (fun _ => false) [false, false] ttok Tryz.func38 rfl (Nat.le_of_ble_eq_true rfl) rfl fun fx hfx => WK.top ?_
    simp only [impl, imp, argT, List.append_nil, List.map_nil, List.nil_append, show Tryz.f38.ntmps = 19 from rfl, Nat.zero_add, Nat.reduceAdd]
    repeat' (first | refine WK.seq ?_ | refine WK.reg ?_ | refine IL.nil ?_ | refine WK.skip ?_ | (with_reducible refine IL.wr ?_ ?_; focus exact cW) | refine IL.sg ttok ?_ | refine IL.cS ttok ent64 [.bor, .bor] true ?_ (hS := by exact hfc) | (refine WK.cn (fun h => ?_) (fun h => ?_); all_goals first | (simp only [reduceCtorEq] at h; done) | (simp only [hsA, hsD, hsE, ne_eq] at h; first | done | (exfalso; omega; done) | skip) | skip))
    all_goals try ((first | refine WK.ret ⟨.inr rfl, ?_⟩ | refine ⟨.inl rfl, ?_⟩ | refine ⟨.inl trivial, ?_⟩); refine Fin.o ?_ ?_ (h1 := by first | rfl | (simp only [go_sem, show Tryz.f38.results.toList = [.tmp 4] from rfl, reduceIte] <;> rfl)); rotate_left 1; (focus (first | rfl | skip)); all_goals try with_reducible rfl)
    all_goals skip
theorem refGet_call (l : List Ve) (r : Int) (hs : Srt l) (hn : l.length ≤ 1000000000000) :
    SCall Tryz.prog 29 [.tr l.length (encs veC l), .v (.int .u16 r)] (.v (.int .u32 (getV l r))) [.tr l.length (encs veC l), .v (.int .u16 r)] := by
  refine SCall.of_body' (TT := TT) (fun _ => false) [false, false] ttok Tryz.func29 rfl (Nat.le_of_ble_eq_true rfl) rfl fun fx hfx => WK.top ?_
  simp only [impl, imp, argT, List.append_nil, List.map_nil, List.nil_append, show Tryz.f29.ntmps = 24 from rfl, Nat.zero_add, Nat.reduceAdd]
  repeat' (first | refine WK.seq ?_ | refine WK.reg ?_ | refine IL.nil ?_ | refine WK.skip ?_ | refine WK.block ?_ | refine WK.exit_here ?_ | refine WK.e1 ?_ | refine WK.e2 ?_ | (with_reducible refine IL.wr ?_ ?_; focus exact cW) | refine IL.sg ttok ?_ | (refine WK.cn (fun h => ?_) (fun h => ?_); all_goals first | (simp only [reduceCtorEq] at h; done) | (simp only [hsA, hsD, hsE, ne_eq] at h; first | done | (exfalso; omega; done) | skip) | skip))
  refine WK.forS l.length (fun k => ∀ x ∈ l.take k, x.1 ≠ r) (fun k => ⟨24, [(0, .tr l.length (encs veC l)), (1, .v (.int .u16 r)), (5, .v (.int .i64 k))], []⟩) ⟨by simp, ?_⟩ (fun k hk ho => ?_) (fun ho => ?_)
  · (refine Weak.renS [] hfx rfl ?_ ?_ rfl <;> (simp only [go_sem, reduceIte, exists_eq_left', exists_eq_left, Blk.mk.injEq] <;> (try and_intros) <;> first | rfl | omega))
  · have hx : l[k]? = some l[k] := List.getElem?_eq_getElem hk
    have hat1 : (encs veC l)[k * 2 + 0]? = some (.v (.int .u16 l[k].1)) := encs_get veC_length hx (by decide)
    rw [Nat.add_zero] at hat1
    have hat2 : (encs veC l)[k * 2 + 1]? = some (.v (.int .u32 l[k].2)) := encs_get veC_length hx (by decide)
    have hle : k * 2 + 2 ≤ l.length * 2 := by omega
    have hne : encs veC l ≠ [] := encs_ne veC_length (by decide) hx
    have hgv := fun h => getV_at (r := r) hs hx h
    have htk : l.take (k + 1) = l.take k ++ [l[k]] := by rw [List.take_add_one, hx]; rfl
    rw [htk]
    clear hx htk
    generalize l[k] = x at *
    have FX := And.intro hat1 (And.intro hat2 hle)
    repeat' (first | refine WK.seq ?_ | refine WK.reg ?_ | refine IL.nil ?_ | refine WK.skip ?_ | refine WK.block ?_ | refine WK.exit_here ?_ | refine WK.e1 ?_ | refine WK.e2 ?_ | (with_reducible refine IL.wr ?_ ?_; focus exact cW) | refine IL.sgF ttok ?_ | (refine WK.cn (fun h => ?_) (fun h => ?_); all_goals first | (simp only [reduceCtorEq] at h; done) | (simp only [hsA, hsD, hsE, ne_eq] at h; first | done | (exfalso; omega; done) | skip) | skip))
    · rw [hgv h]
      all_goals try ((first | refine WK.ret ⟨.inr rfl, ?_⟩ | refine ⟨.inl rfl, ?_⟩ | refine ⟨.inl trivial, ?_⟩); refine Fin.o ?_ ?_ (h1 := by first | rfl | (simp only [go_sem, show Tryz.f29.results.toList = [.tmp 4] from rfl, reduceIte] <;> rfl)); rotate_left 1; (focus (first | rfl | skip)); all_goals try with_reducible rfl)
      all_goals skip
    · refine ⟨fun y hy => ?_, ?_⟩
      · rcases List.mem_append.1 hy with hy | hy
        · exact ho y hy
        · simp at hy; subst hy; exact h
      · (refine Weak.renS [] hfx rfl ?_ ?_ rfl <;> (simp only [go_sem, reduceIte, exists_eq_left', exists_eq_left, Blk.mk.injEq] <;> (try and_intros) <;> first | rfl | omega))
  · rw [List.take_length] at ho
    rw [getV_none ho]
    repeat' (first | refine WK.seq ?_ | refine WK.reg ?_ | refine IL.nil ?_ | refine WK.skip ?_ | refine WK.block ?_ | refine WK.exit_here ?_ | refine WK.e1 ?_ | refine WK.e2 ?_ | (with_reducible refine IL.wr ?_ ?_; focus exact cW) | refine IL.sg ttok ?_ | (refine WK.cn (fun h => ?_) (fun h => ?_); all_goals first | (simp only [reduceCtorEq] at h; done) | (simp only [hsA, hsD, hsE, ne_eq] at h; first | done | (exfalso; omega; done) | skip) | skip))
    all_goals try ((first | refine WK.ret ⟨.inr rfl, ?_⟩ | refine ⟨.inl rfl, ?_⟩ | refine ⟨.inl trivial, ?_⟩); refine Fin.o ?_ ?_ (h1 := by first | rfl | (simp only [go_sem, show Tryz.f29.results.toList = [.tmp 4] from rfl, reduceIte] <;> rfl)); rotate_left 1; (focus (first | rfl | skip)); all_goals try with_reducible rfl)
    all_goals skip
end Go.Proofs.YtclhjcbnpdlgbaaGreatDoor.Vc
/- package vector, and the document's: what is lacked, how vectors stand. -/
namespace Go.Proofs.YtclhjcbnpdlgbaaGreatDoor.Vc
open Go Go.Lift
set_option maxHeartbeats 4000000
set_option linter.unusedSimpArgs false
set_option linter.unusedVariables false
attribute [local irreducible] WK IL IP IG IW DW

abbrev Gp := Int × Int × Int
def gpC (a : Gp) : List IV := [.v (.int .u16 a.1), .v (.int .u32 a.2.1), .v (.int .u32 a.2.2)]
instance : Cells gpC 3 := ⟨fun _ => rfl, fun _ => rfl, fun _ => rfl⟩
theorem gpC_length (a : Gp) : (gpC a).length = 3 := rfl
def gapOf (v : List Ve) (x : Ve) : List Gp := if getV v x.1 < x.2 then [(x.1, getV v x.1 + 1, x.2)] else []
def lackV (v w : List Ve) : List Gp := w.flatMap (gapOf v)
theorem lackV_snoc (v w : List Ve) (x : Ve) : lackV v (w ++ [x]) = lackV v w ++ gapOf v x := by simp [lackV]
theorem lackV_le (v : List Ve) : ∀ w : List Ve, (lackV v w).length ≤ w.length
  | [] => Nat.le_refl _
  | x :: w => by
    have := lackV_le v w
    unfold lackV at this ⊢
    rw [List.flatMap_cons, List.length_append]
    have : (gapOf v x).length ≤ 1 := by unfold gapOf; split <;> simp
    simp only [List.length_cons]; omega
theorem lacks_call (v w : List Ve) (hs : Srt v) (hv : okVe v) (hw : okVe w) (hnv : v.length ≤ 100000) (hn : w.length ≤ 100000) :
    SCall Tryz.prog 51 [.tr v.length (encs veC v), .tr w.length (encs veC w)] (.own 66 (lackV v w).length true (encs gpC (lackV v w))) [.tr v.length (encs veC v), .tr w.length (encs veC w)] := by
  refine SCall.of_body' (TT := TT) (fun _ => false) [false, false] ttok Tryz.func51 rfl (Nat.le_of_ble_eq_true rfl) rfl fun fx hfx => WK.top ?_
  simp only [impl, imp, argT, List.append_nil, List.map_nil, List.nil_append, show Tryz.f51.ntmps = 35 from rfl, Nat.zero_add, Nat.reduceAdd]
  repeat' (first | refine WK.seq ?_ | refine WK.reg ?_ | refine IL.nil ?_ | refine WK.skip ?_ | refine WK.block ?_ | refine WK.exit_here ?_ | refine WK.e1 ?_ | refine WK.e2 ?_ | (with_reducible refine IL.wr ?_ ?_; focus exact cW) | refine IL.sg ttok ?_ | refine IL.cS ttok ent38 [.bor, .bor] true ?_ (hS := by exact hge) | (refine WK.cn (fun h => ?_) (fun h => ?_); all_goals first | (simp only [reduceCtorEq] at h; done) | (simp only [hsA, hsD, hsE, ne_eq] at h; first | done | (exfalso; omega; done) | skip) | skip))
  refine WK.forS w.length (fun k => True) (fun k => ⟨35, [(0, .tr v.length (encs veC v)), (5, .sl 0 0 0 (lackV v (w.take k)).length), (9, .tr w.length (encs veC w)), (10, .v (.int .i64 w.length)), (11, .v (.int .i64 k))], [some ⟨true, 66, (lackV v (w.take k)).length, true, encs gpC (lackV v (w.take k)), 0, false⟩]⟩) ⟨trivial, ?_⟩ (fun k hk ho => ?_) (fun ho => ?_)
  · (refine Weak.renS [1] hfx rfl ?_ ?_ rfl <;> (simp only [go_sem, reduceIte, exists_eq_left', exists_eq_left, Blk.mk.injEq, List.take_zero, lackV, List.flatMap_nil, List.length_nil, encs_nil] <;> (try and_intros) <;> first | rfl | omega))
  · have hx : w[k]? = some w[k] := List.getElem?_eq_getElem hk
    have hat : ((encs veC w).drop (k * 2)).take 2 = [.v (.int .u16 w[k].1), .v (.int .u32 w[k].2)] := encs_at veC_length hx
    have hle : k * 2 + 2 ≤ w.length * 2 := by omega
    have hne : encs veC w ≠ [] := encs_ne veC_length (by decide) hx
    have htk : w.take (k + 1) = w.take k ++ [w[k]] := by rw [List.take_add_one, hx]; rfl
    have hxr := hw _ (List.getElem_mem hk)
    have hge := get_call v w[k].1 hs hv.r hxr.1 (by omega)
    have hb := getV_bd hv w[k].1
    have hll := lackV_le v (w.take k)
    have hlt : (w.take k).length ≤ 100000 := by rw [List.length_take]; omega
    rw [htk, lackV_snoc]
    unfold gapOf
    clear htk hx
    generalize w[k] = x at *
    generalize getV v x.1 = g at *
    generalize lackV v (w.take k) = out at *
    have hsn := encs_snoc (f := gpC) out (x.1, g + 1, x.2)
    have htq : (encs gpC out).take (out.length * 3) = encs gpC out := encs_take_all gpC_length out
    simp only [gpC] at hsn
    have FX := And.intro hat hle
    repeat' (first | refine WK.seq ?_ | refine WK.reg ?_ | refine IL.nil ?_ | refine WK.skip ?_ | refine WK.block ?_ | refine WK.exit_here ?_ | refine WK.e1 ?_ | refine WK.e2 ?_ | (with_reducible refine IL.wr ?_ ?_; focus exact cW) | refine IL.sgF ttok ?_ | refine IL.cSF ttok ent38 [.bor, .bor] true ?_ (hS := by exact hge) | (refine WK.cn (fun h => ?_) (fun h => ?_); all_goals first | (simp only [reduceCtorEq] at h; done) | (simp only [hsA, hsD, hsE, ne_eq] at h; first | done | (exfalso; omega; done) | skip) | skip))
    · rw [if_pos h]
      refine ⟨trivial, ?_⟩
      (refine Weak.renS [0] hfx rfl ?_ ?_ rfl <;> (simp only [go_sem, reduceIte, exists_eq_left', exists_eq_left, Blk.mk.injEq, htq, hsn, List.length_append, List.length_cons, List.length_nil] <;> (try and_intros) <;> first | rfl | omega))
    · rw [if_neg (by omega)]
      refine ⟨trivial, ?_⟩
      (refine Weak.renS [0] hfx rfl ?_ ?_ rfl <;> (simp only [go_sem, reduceIte, exists_eq_left', exists_eq_left, Blk.mk.injEq, List.append_nil] <;> (try and_intros) <;> first | rfl | omega))
  · rw [List.take_length]
    repeat' (first | refine WK.seq ?_ | refine WK.reg ?_ | refine IL.nil ?_ | refine WK.skip ?_ | refine WK.block ?_ | refine WK.exit_here ?_ | refine WK.e1 ?_ | refine WK.e2 ?_ | (with_reducible refine IL.wr ?_ ?_; focus exact cW) | refine IL.sg ttok ?_ | refine IL.cS ttok ent38 [.bor, .bor] true ?_ (hS := by exact hge) | (refine WK.cn (fun h => ?_) (fun h => ?_); all_goals first | (simp only [reduceCtorEq] at h; done) | (simp only [hsA, hsD, hsE, ne_eq] at h; first | done | (exfalso; omega; done) | skip) | skip))
    all_goals try ((first | refine WK.ret ⟨.inr rfl, ?_⟩ | refine ⟨.inl rfl, ?_⟩ | refine ⟨.inl trivial, ?_⟩); refine Fin.o ?_ ?_ (h1 := by first | rfl | (simp only [go_sem, show Tryz.f51.results.toList = [.tmp 4] from rfl, reduceIte] <;> rfl)); rotate_left 1; (focus (first | rfl | skip)); all_goals try with_reducible rfl)
    all_goals skip
theorem refLacks_call (v w : List Ve) (hs : Srt v) (hv : okVe v) (hw : okVe w) (hnv : v.length ≤ 100000) (hn : w.length ≤ 100000) :
    SCall Tryz.prog 53 [.tr v.length (encs veC v), .tr w.length (encs veC w)] (.own 65 (lackV v w).length true (encs gpC (lackV v w))) [.tr v.length (encs veC v), .tr w.length (encs veC w)] := by
  refine SCall.of_body' (TT := TT) (fun _ => false) [false, false] ttok Tryz.func53 rfl (Nat.le_of_ble_eq_true rfl) rfl fun fx hfx => WK.top ?_
  simp only [impl, imp, argT, List.append_nil, List.map_nil, List.nil_append, show Tryz.f53.ntmps = 45 from rfl, Nat.zero_add, Nat.reduceAdd]
  repeat' (first | refine WK.seq ?_ | refine WK.reg ?_ | refine IL.nil ?_ | refine WK.skip ?_ | refine WK.block ?_ | refine WK.exit_here ?_ | refine WK.e1 ?_ | refine WK.e2 ?_ | refine WK.drawnS (id := 7) mixed [] [14, 15] [0, 0, 0, 0, 0, 0, 0, 0, 0, 0, 0, 0, 0, 0, 0, 1, 2] [1, 0, 0, 0, 0, 0, 0, 0, 0, 0, 0, 0, 0, 0, 0, 1, 2] (by decide +kernel) ?_ | refine DW.nil ?_ | (with_reducible refine IL.wr ?_ ?_; focus exact cW) | (with_reducible refine DW.wr ?_ ?_; focus exact cW) | refine IL.sg ttok ?_ | refine DW.re ttok ?_ | refine DW.rm ttok ?_ | refine DW.bk ttok ?_ | refine IL.cS ttok ent29 [.bor, .bor] true ?_ (hS := by exact hge) | (refine WK.cn (fun h => ?_) (fun h => ?_); all_goals first | (simp only [reduceCtorEq] at h; done) | (simp only [hsA, hsD, hsE, ne_eq] at h; first | done | (exfalso; omega; done) | skip) | skip))
  refine WK.forS w.length (fun k => True) (fun k => ⟨45, [(0, .tr v.length (encs veC v)), (1, .tr w.length (encs veC w)), (5, .sl 0 0 0 (lackV v (w.take k)).length), (6, .v (.int .i64 k))], [some ⟨true, 65, (lackV v (w.take k)).length, true, encs gpC (lackV v (w.take k)), 0, false⟩]⟩) ⟨trivial, ?_⟩ (fun k hk ho => ?_) (fun ho => ?_)
  · (refine Weak.renS [1] hfx rfl ?_ ?_ rfl <;> (simp only [go_sem, reduceIte, exists_eq_left', exists_eq_left, Blk.mk.injEq, List.take_zero, lackV, List.flatMap_nil, List.length_nil, encs_nil] <;> (try and_intros) <;> first | rfl | omega))
  · have hx : w[k]? = some w[k] := List.getElem?_eq_getElem hk
    have hat1 : (encs veC w)[k * 2 + 0]? = some (.v (.int .u16 w[k].1)) := encs_get veC_length hx (by decide)
    rw [Nat.add_zero] at hat1
    have hat2 : (encs veC w)[k * 2 + 1]? = some (.v (.int .u32 w[k].2)) := encs_get veC_length hx (by decide)
    have hle : k * 2 + 2 ≤ w.length * 2 := by omega
    have hne : encs veC w ≠ [] := encs_ne veC_length (by decide) hx
    have htk : w.take (k + 1) = w.take k ++ [w[k]] := by rw [List.take_add_one, hx]; rfl
    have hxr := hw _ (List.getElem_mem hk)
    have hge := refGet_call v w[k].1 hs (by omega)
    have hb := getV_bd hv w[k].1
    have hll := lackV_le v (w.take k)
    have hlt : (w.take k).length ≤ 100000 := by rw [List.length_take]; omega
    rw [htk, lackV_snoc]
    unfold gapOf
    clear htk hx
    generalize w[k] = x at *
    generalize getV v x.1 = g at *
    generalize lackV v (w.take k) = out at *
    have hsn := encs_snoc (f := gpC) out (x.1, g + 1, x.2)
    have htq : (encs gpC out).take (out.length * 3) = encs gpC out := encs_take_all gpC_length out
    simp only [gpC] at hsn
    have FX := And.intro hat1 (And.intro hat2 hle)
    repeat' (first | refine WK.seq ?_ | refine WK.reg ?_ | refine IL.nil ?_ | refine WK.skip ?_ | refine WK.block ?_ | refine WK.exit_here ?_ | refine WK.e1 ?_ | refine WK.e2 ?_ | refine WK.drawnS (id := 7) mixed [] [14, 15] [0, 0, 0, 0, 0, 0, 0, 0, 0, 0, 0, 0, 0, 0, 0, 1, 2] [1, 0, 0, 0, 0, 0, 0, 0, 0, 0, 0, 0, 0, 0, 0, 1, 2] (by decide +kernel) ?_ | refine DW.nil ?_ | (with_reducible refine IL.wr ?_ ?_; focus exact cW) | (with_reducible refine DW.wr ?_ ?_; focus exact cW) | refine IL.sgF ttok ?_ | refine DW.reF ttok ?_ | refine DW.rmF ttok ?_ | refine DW.bkF ttok ?_ | refine IL.cSF ttok ent29 [.bor, .bor] true ?_ (hS := by exact hge) | (refine WK.cn (fun h => ?_) (fun h => ?_); all_goals first | (simp only [reduceCtorEq] at h; done) | (simp only [hsA, hsD, hsE, ne_eq] at h; first | done | (exfalso; omega; done) | skip) | skip))
    · rw [if_pos h]
      refine ⟨trivial, ?_⟩
      (refine Weak.renS [0] hfx rfl ?_ ?_ rfl <;> (simp only [go_sem, reduceIte, exists_eq_left', exists_eq_left, Blk.mk.injEq, htq, hsn, List.length_append, List.length_cons, List.length_nil] <;> (try and_intros) <;> first | rfl | omega))
    · rw [if_neg (by omega)]
      refine ⟨trivial, ?_⟩
      (refine Weak.renS [0] hfx rfl ?_ ?_ rfl <;> (simp only [go_sem, reduceIte, exists_eq_left', exists_eq_left, Blk.mk.injEq, List.append_nil] <;> (try and_intros) <;> first | rfl | omega))
  · rw [List.take_length]
    repeat' (first | refine WK.seq ?_ | refine WK.reg ?_ | refine IL.nil ?_ | refine WK.skip ?_ | refine WK.block ?_ | refine WK.exit_here ?_ | refine WK.e1 ?_ | refine WK.e2 ?_ | refine WK.drawnS (id := 7) mixed [] [14, 15] [0, 0, 0, 0, 0, 0, 0, 0, 0, 0, 0, 0, 0, 0, 0, 1, 2] [1, 0, 0, 0, 0, 0, 0, 0, 0, 0, 0, 0, 0, 0, 0, 1, 2] (by decide +kernel) ?_ | refine DW.nil ?_ | (with_reducible refine IL.wr ?_ ?_; focus exact cW) | (with_reducible refine DW.wr ?_ ?_; focus exact cW) | refine IL.sg ttok ?_ | refine DW.re ttok ?_ | refine DW.rm ttok ?_ | refine DW.bk ttok ?_ | refine IL.cS ttok ent29 [.bor, .bor] true ?_ (hS := by exact hge) | (refine WK.cn (fun h => ?_) (fun h => ?_); all_goals first | (simp only [reduceCtorEq] at h; done) | (simp only [hsA, hsD, hsE, ne_eq] at h; first | done | (exfalso; omega; done) | skip) | skip))
    all_goals try ((first | refine WK.ret ⟨.inr rfl, ?_⟩ | refine ⟨.inl rfl, ?_⟩ | refine ⟨.inl trivial, ?_⟩); refine Fin.o ?_ ?_ (h1 := by first | rfl | (simp only [go_sem, show Tryz.f53.results.toList = [.tmp 4] from rfl, reduceIte] <;> rfl)); rotate_left 1; (focus (first | rfl | skip)); all_goals try with_reducible rfl)
    all_goals skip
def covV (v w : List Ve) : Bool := (lackV v w).length == 0
theorem refCovers_call (v w : List Ve) (hs : Srt v) (hv : okVe v) (hw : okVe w) (hnv : v.length ≤ 100000) (hn : w.length ≤ 100000) :
    SCall Tryz.prog 56 [.tr v.length (encs veC v), .tr w.length (encs veC w)] (.v (.bool (covV v w))) [.tr v.length (encs veC v), .tr w.length (encs veC w)] := by
  have hc : (((lackV v w).length : Int) == 0) = covV v w := by
    unfold covV
    by_cases h : (lackV v w).length = 0
    · rw [h]; rfl
    · rw [beq_eq_false_iff_ne.2 h, beq_eq_false_iff_ne]; omega
  refine SCall.of_body' (TT := TT) (fun _ => false) [false, false] ttok Tryz.func56 rfl (Nat.le_of_ble_eq_true rfl) rfl fun fx hfx => WK.top ?_
  simp only [impl, imp, argT, List.append_nil, List.map_nil, List.nil_append, show Tryz.f56.ntmps = 10 from rfl, Nat.zero_add, Nat.reduceAdd]
  have FX := hc
  repeat' (first | refine WK.seq ?_ | refine WK.reg ?_ | refine IL.nil ?_ | (with_reducible refine IL.wr ?_ ?_; focus exact cW) | refine IL.sgF ttok ?_ | refine IL.cSF ttok ent53 [.bor, .bor] true ?_ (hS := by exact refLacks_call _ _ hs hv hw hnv hn))
  all_goals try ((first | refine WK.ret ⟨.inr rfl, ?_⟩ | refine ⟨.inl rfl, ?_⟩ | refine ⟨.inl trivial, ?_⟩); refine Fin.o ?_ ?_ (h1 := by first | rfl | (simp only [go_sem, show Tryz.f56.results.toList = [.tmp 4] from rfl, reduceIte, hc] <;> rfl)) (h2 := by first | rfl | (simp only [go_sem, reduceIte, hc] <;> rfl)); rotate_left 1; (focus (first | rfl | skip)); all_goals try with_reducible rfl)
  all_goals skip
theorem covers_call (v w : List Ve) (hs : Srt v) (hv : okVe v) (hw : okVe w) (hnv : v.length ≤ 100000) (hn : w.length ≤ 100000) :
    SCall Tryz.prog 55 [.tr v.length (encs veC v), .tr w.length (encs veC w)] (.v (.bool (covV v w))) [.tr v.length (encs veC v), .tr w.length (encs veC w)] := by
  refine SCall.of_body' (TT := TT) (fun _ => false) [false, false] ttok Tryz.func55 rfl (Nat.le_of_ble_eq_true rfl) rfl fun fx hfx => WK.top ?_
  simp only [impl, imp, argT, List.append_nil, List.map_nil, List.nil_append, show Tryz.f55.ntmps = 21 from rfl, Nat.zero_add, Nat.reduceAdd]
  repeat' (first | refine WK.seq ?_ | refine WK.reg ?_ | refine IL.nil ?_ | refine WK.skip ?_ | refine WK.block ?_ | refine WK.exit_here ?_ | refine WK.e1 ?_ | refine WK.e2 ?_ | refine WK.drawnS (id := 4) mixed [] [3] [0, 0, 0, 0, 0, 0, 1] [0, 0, 0, 0, 1, 1, 1] (by decide +kernel) ?_ | refine DW.nil ?_ | (with_reducible refine IL.wr ?_ ?_; focus exact cW) | (with_reducible refine DW.wr ?_ ?_; focus exact cW) | refine IL.sg ttok ?_ | refine DW.re ttok ?_ | refine DW.rm ttok ?_ | refine DW.cS ttok ent38 [.bor, .bor] true ?_ (hS := by exact hge) | (refine WK.cn (fun h => ?_) (fun h => ?_); all_goals first | (simp only [reduceCtorEq] at h; done) | (simp only [hsA, hsD, hsE, ne_eq] at h; first | done | (exfalso; omega; done) | skip) | skip))
  refine WK.forS w.length (fun k => lackV v (w.take k) = []) (fun k => ⟨21, [(0, .tr v.length (encs veC v)), (7, .tr w.length (encs veC w)), (8, .v (.int .i64 w.length)), (9, .v (.int .i64 k))], []⟩) ⟨rfl, ?_⟩ (fun k hk ho => ?_) (fun ho => ?_)
  · (refine Weak.renS [] hfx rfl ?_ ?_ rfl <;> (simp only [go_sem, reduceIte, exists_eq_left', exists_eq_left, Blk.mk.injEq] <;> (try and_intros) <;> first | rfl | omega))
  · have hx : w[k]? = some w[k] := List.getElem?_eq_getElem hk
    have hat : ((encs veC w).drop (k * 2)).take 2 = [.v (.int .u16 w[k].1), .v (.int .u32 w[k].2)] := encs_at veC_length hx
    have hle : k * 2 + 2 ≤ w.length * 2 := by omega
    have hne : encs veC w ≠ [] := encs_ne veC_length (by decide) hx
    have htk : w.take (k + 1) = w.take k ++ [w[k]] := by rw [List.take_add_one, hx]; rfl
    have hxr := hw _ (List.getElem_mem hk)
    have hge := get_call v w[k].1 hs hv.r hxr.1 (by omega)
    have hno : getV v w[k].1 < w[k].2 → covV v w = false := fun h => by
      unfold covV
      have : (w[k].1, getV v w[k].1 + 1, w[k].2) ∈ lackV v w := by
        unfold lackV
        rw [List.mem_flatMap]
        exact ⟨w[k], List.getElem_mem hk, by unfold gapOf; rw [if_pos h]; simp⟩
      rw [beq_eq_false_iff_ne]
      intro h0
      rw [List.eq_nil_of_length_eq_zero h0] at this
      simp at this
    rw [htk, lackV_snoc, ho, List.nil_append]
    unfold gapOf
    clear htk hx
    generalize w[k] = x at *
    generalize getV v x.1 = g at *
    have FX := And.intro hat hle
    repeat' (first | refine WK.seq ?_ | refine WK.reg ?_ | refine IL.nil ?_ | refine WK.skip ?_ | refine WK.block ?_ | refine WK.exit_here ?_ | refine WK.e1 ?_ | refine WK.e2 ?_ | refine WK.drawnS (id := 4) mixed [] [3] [0, 0, 0, 0, 0, 0, 1] [0, 0, 0, 0, 1, 1, 1] (by decide +kernel) ?_ | refine DW.nil ?_ | (with_reducible refine IL.wr ?_ ?_; focus exact cW) | (with_reducible refine DW.wr ?_ ?_; focus exact cW) | refine IL.sgF ttok ?_ | refine DW.reF ttok ?_ | refine DW.rmF ttok ?_ | refine DW.cSF ttok ent38 [.bor, .bor] true ?_ (hS := by exact hge) | (refine WK.cn (fun h => ?_) (fun h => ?_); all_goals first | (simp only [reduceCtorEq] at h; done) | (simp only [hsA, hsD, hsE, ne_eq] at h; first | done | (exfalso; omega; done) | skip) | skip))
    · rw [hno h]
      all_goals try ((first | refine WK.ret ⟨.inr rfl, ?_⟩ | refine ⟨.inl rfl, ?_⟩ | refine ⟨.inl trivial, ?_⟩); refine Fin.o ?_ ?_ (h1 := by first | rfl | (simp only [go_sem, show Tryz.f55.results.toList = [.tmp 4] from rfl, reduceIte] <;> rfl)); rotate_left 1; (focus (first | rfl | skip)); all_goals try with_reducible rfl)
      all_goals skip
    · rw [if_neg (by omega)]
      refine ⟨rfl, ?_⟩
      (refine Weak.renS [] hfx rfl ?_ ?_ rfl <;> (simp only [go_sem, reduceIte, exists_eq_left', exists_eq_left, Blk.mk.injEq] <;> (try and_intros) <;> first | rfl | omega))
  · rw [List.take_length] at ho
    have hc : covV v w = true := by unfold covV; rw [ho]; rfl
    rw [hc]
    repeat' (first | refine WK.seq ?_ | refine WK.reg ?_ | refine IL.nil ?_ | refine WK.skip ?_ | refine WK.block ?_ | refine WK.exit_here ?_ | refine WK.e1 ?_ | refine WK.e2 ?_ | refine WK.drawnS (id := 4) mixed [] [3] [0, 0, 0, 0, 0, 0, 1] [0, 0, 0, 0, 1, 1, 1] (by decide +kernel) ?_ | refine DW.nil ?_ | (with_reducible refine IL.wr ?_ ?_; focus exact cW) | (with_reducible refine DW.wr ?_ ?_; focus exact cW) | refine IL.sg ttok ?_ | refine DW.re ttok ?_ | refine DW.rm ttok ?_ | refine DW.cS ttok ent38 [.bor, .bor] true ?_ (hS := by exact hge) | (refine WK.cn (fun h => ?_) (fun h => ?_); all_goals first | (simp only [reduceCtorEq] at h; done) | (simp only [hsA, hsD, hsE, ne_eq] at h; first | done | (exfalso; omega; done) | skip) | skip))
    all_goals try ((first | refine WK.ret ⟨.inr rfl, ?_⟩ | refine ⟨.inl rfl, ?_⟩ | refine ⟨.inl trivial, ?_⟩); refine Fin.o ?_ ?_ (h1 := by first | rfl | (simp only [go_sem, show Tryz.f55.results.toList = [.tmp 4] from rfl, reduceIte] <;> rfl)); rotate_left 1; (focus (first | rfl | skip)); all_goals try with_reducible rfl)
    all_goals skip
end Go.Proofs.YtclhjcbnpdlgbaaGreatDoor.Vc
