/- span.sorted at the machine. -/
import Derived.Shelf.SlSortCmp.NoneTotal
import Derived.Test.YtclhjcbnpdlgbaaDoorLXBA4
namespace Go.Proofs.YtclhjcbnpdlgbaaDoor.Srt
open Go Go.RowKit Go.Shelf Go.Lib Go.Sort

theorem Spans.up {n n' : Nat} {W : World} {sv : Value} {zs : List S3} (h : Spans n W sv zs) (hn : n ≤ n') : Spans n' W sv zs := by
  rcases h with h | ⟨b, off, cap, e, hb, hc⟩
  · exact .inl h
  · exact .inr ⟨b, off, cap, e, Nat.lt_of_lt_of_le hb hn, hc⟩
theorem ownsRow_low {W : World} {base base' : Nat} {e : TypeId} {size : Nat} {v : Value} {k : Nat} {xs : List Value} (h : W.ownsRow base e size v k xs) (hb : base' ≤ base) : W.ownsRow base' e size v k xs := by
  refine ⟨h.1, ?_⟩
  rcases h.2 with hn | ⟨g, cap, cur, hv, hbg, rest⟩
  · exact .inl hn
  · exact .inr ⟨g, cap, cur, hv, Nat.le_trans hb hbg, rest⟩
theorem appendSeq_c (Bs : Nat) (sv : Value) (zs : List S3) (hreach : zs.length * 24 ≤ 140737488351232) (w : World) (hBs : Bs < w.heap.size) (hc : w.cell? ⟨Bs, 0, none⟩ = some sv) (hI : Spans w.heap.size w sv zs) :
    Calls Tryd.prog 59 #[.slice none 0 0, .func (.func 55) #[] #[.pointer (some ⟨Bs, 0, none⟩)]] w fun e W' => ∃ v, e = .returned v ∧ W'.ownsRow w.heap.size 67 3 v zs.length (zs.flatMap s3v) ∧ RowKit.Below w.heap.size w W' :=
  callsIn_wide.1 (appendSeq_in Fence.wide 5 trivial trivial rfl (by omega) Bs sv zs (by simp only [maxLen]; omega) (by omega) hreach w hBs hc hI)
set_option maxRecDepth 100000 in
set_option maxHeartbeats 2000000 in
theorem collect_c (Bs : Nat) (sv : Value) (zs : List S3) (hreach : zs.length * 24 ≤ 140737488351232) (w : World) (hBs : Bs < w.heap.size) (hc : w.cell? ⟨Bs, 0, none⟩ = some sv) (hI : Spans w.heap.size w sv zs) :
    Calls Tryd.prog 53 #[.func (.func 55) #[] #[.pointer (some ⟨Bs, 0, none⟩)]] w fun e W' => ∃ v, e = .returned v ∧ W'.ownsRow w.heap.size 67 3 v zs.length (zs.flatMap s3v) ∧ RowKit.Below w.heap.size w W' := by
  have e78 : ∀ args w, (callFunc 59 args).run Tryd.prog w = .ok (.enter 59 args) w := enters_of Tryd.func59 (by kernel_rfl) rfl
  have happ := appendSeq_c Bs sv zs hreach w hBs hc hI
  clear hBs hc hI hreach
  go_enter Tryd.func53, Tryd.ntmps53
  go_wp2_with (go_at_fn 59; refine happ.mono ?_; rintro e w' ⟨v, rfl, h1, h2⟩)
  go_ret
  exact ⟨v, rfl, h1, h2⟩
theorem srtS_nil : srtS [] = [] := List.eq_nil_of_length_eq_zero (srtS_len [])
theorem sortAny (zs : List S3) (base : Nat) (v : Value) (w : World) (hbw : base ≤ w.heap.size) (hz : zs.length < 4611686018427387904) (hown : w.ownsRow base 67 3 v zs.length (zs.flatMap s3v)) :
    Calls Tryd.prog 54 #[v, .func (.func 50) #[] #[]] w fun e w' => e = .returned (.tuple #[]) ∧ w'.ownsRow base 67 3 v zs.length ((srtS zs).flatMap s3v) ∧ RowKit.Below base w w' := by
  rcases hown.2 with ⟨rfl, h0⟩ | ⟨g, cap, cur, rfl, hbase, hb, _⟩
  · obtain rfl : zs = [] := List.eq_nil_of_length_eq_zero h0
    refine Calls.mono (AnyF.slices_SortFunc_none Tryd.sortS none 0 (.func (.func 50) #[] #[]) w) ?_
    rintro e w' ⟨rfl, rfl⟩
    rw [srtS_nil]
    exact ⟨rfl, hown, RowKit.Below.refl _ _⟩
  · refine (sortFunc_call zs g cap base w hz hown).mono ?_
    rintro e w' ⟨rfl, h1, h2⟩
    exact ⟨rfl, h1, (RowKit.Below.refl base w).grown h2 hbw fun k e => by cases e; exact hbase⟩
set_option maxRecDepth 100000 in
set_option maxHeartbeats 2000000 in
theorem sortedFunc_c (Bs : Nat) (sv : Value) (zs : List S3) (hreach : zs.length * 24 ≤ 140737488351232) (w : World) (hBs : Bs < w.heap.size) (hc : w.cell? ⟨Bs, 0, none⟩ = some sv) (hI : Spans w.heap.size w sv zs) :
    Calls Tryd.prog 48 #[.func (.func 55) #[] #[.pointer (some ⟨Bs, 0, none⟩)], .func (.func 50) #[] #[]] w fun e W' => ∃ v, e = .returned v ∧ W'.ownsRow w.heap.size 67 3 v zs.length ((srtS zs).flatMap s3v) ∧ RowKit.Below w.heap.size w W' := by
  have e71 : ∀ args w, (callFunc 53 args).run Tryd.prog w = .ok (.enter 53 args) w := enters_of Tryd.func53 (by kernel_rfl) rfl
  have e72 : ∀ args w, (callFunc 54 args).run Tryd.prog w = .ok (.enter 54 args) w := enters_of Tryd.func54 (by kernel_rfl) rfl
  have hcol := collect_c Bs sv zs hreach w hBs hc hI
  clear hBs hc hI
  go_enter Tryd.func48, Tryd.ntmps48
  go_wp2_with (go_at_fn 53; refine hcol.mono ?_; rintro e w1 ⟨v, rfl, h1, h2⟩)
  refine (sortAny zs w.heap.size v w1 h2.size (by omega) h1).mono ?_
  rintro e w2 ⟨rfl, h3, h4⟩
  go_wp2
  go_ret
  exact ⟨v, rfl, h3, h2.trans h4⟩
set_option maxRecDepth 100000 in
set_option maxHeartbeats 2000000 in
theorem sorted_c (a : Option Addr) (len cap : Nat) (zs : List S3) (hreach : zs.length * 24 ≤ 140737488351232) (w : World) (hI : Spans w.heap.size w (.slice a len cap) zs) :
    Calls Tryd.prog 46 #[.slice a len cap] w fun e W' => ∃ v, e = .returned v ∧ W'.ownsRow w.heap.size 67 3 v zs.length ((srtS zs).flatMap s3v) ∧ RowKit.Below w.heap.size w W' := by
  have e66 : ∀ args w, (callFunc 49 args).run Tryd.prog w = .ok (.enter 49 args) w := enters_of Tryd.func49 (by kernel_rfl) rfl
  have e65 : ∀ args w, (callFunc 48 args).run Tryd.prog w = .ok (.enter 48 args) w := enters_of Tryd.func48 (by kernel_rfl) rfl
  have hval : Calls Tryd.prog 49 #[.slice a len cap] w fun e w' => e = .returned (.func (.func 55) #[] #[.pointer (some ⟨w.heap.size, 0, none⟩)]) ∧ w' = w.alloc (.cells #[.slice a len cap] 26) :=
    callsIn_wide.1 (values_in Fence.wide 5 trivial rfl a len cap w)
  have hB0 : RowKit.Below w.heap.size w (w.alloc (.cells #[.slice a len cap] 26)) := (RowKit.Below.refl _ w).alloc (Nat.le_refl _) _
  have hB1 : RowKit.Below (w.alloc (.cells #[.slice a len cap] 26)).heap.size (w.alloc (.cells #[.slice a len cap] 26)) (w.alloc (.cells #[.slice a len cap] 26)) := RowKit.Below.refl _ _
  have hI1 : Spans (w.alloc (.cells #[.slice a len cap] 26)).heap.size (w.alloc (.cells #[.slice a len cap] 26)) (.slice a len cap) zs := (hI.below hB0).up (by simp)
  have hsrt := sortedFunc_c w.heap.size (.slice a len cap) zs hreach (w.alloc (.cells #[.slice a len cap] 26)) (by simp) (by simp [World.cell?_alloc_new]) hI1
  clear hI hI1 hB1
  go_enter Tryd.func46, Tryd.ntmps46
  go_wp2_with (first
    | (go_at_fn 49; refine hval.mono ?_; rintro e w1 ⟨rfl, rfl⟩)
    | (go_at_fn 48; refine hsrt.mono ?_; rintro e w1 ⟨v, rfl, h1, h2⟩))
  go_ret
  exact ⟨v, rfl, ownsRow_low h1 (by simp), hB0.trans (h2.mono (by simp))⟩
end Go.Proofs.YtclhjcbnpdlgbaaDoor.Srt
