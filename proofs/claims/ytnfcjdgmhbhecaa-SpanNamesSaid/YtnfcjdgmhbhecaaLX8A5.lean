/- span.sorted at the machine. -/
import Derived.Shelf.SlSortCmp.NoneTotal
import Derived.Test.YtnfcjdgmhbhecaaLX8A4
namespace Go.Proofs.Ytnfcjdgmhbhecaa.Srt
open Go Go.RowKit Go.Shelf Go.Lib Go.Sort

theorem Spans.up {n n' : Nat} {W : World} {sv : Value} {zs : List S3} (h : Spans n W sv zs) (hn : n ≤ n') : Spans n' W sv zs := by
  rcases h with h | ⟨b, off, cap, e, hb, hc⟩
  · exact .inl h
  · exact .inr ⟨b, off, cap, e, Nat.lt_of_lt_of_le hb hn, hc⟩
theorem ownsRow_low {W : World} {base base' : Nat} {e : TypeId} {size : Nat} {v : Value} {k : Nat} {xs : List Value} (h : W.ownsRow base e size v k xs) (hb : base' ≤ base) : W.ownsRow base' e size v k xs := by
  refine ⟨h.1, ?_⟩
  rcases h.2 with hn | ⟨g, cap, cur, hv, hbg, rest⟩
  · exact .inl hn
  · exact .inr ⟨g, cap, cur, hv, Nat.le_trans hb hbg, rest⟩
theorem appendSeq_c (Bs : Nat) (sv : Value) (zs : List S3) (hreach : zs.length * 24 ≤ 140737488351232) (w : World) (hBs : Bs < w.heap.size) (hc : w.cell? ⟨Bs, 0, none⟩ = some sv) (hI : Spans w.heap.size w sv zs) :
    Calls Try.prog 78 #[.slice none 0 0, .func (.func 73) #[] #[.pointer (some ⟨Bs, 0, none⟩)]] w fun e W' => ∃ v, e = .returned v ∧ W'.ownsRow w.heap.size 53 3 v zs.length (zs.flatMap s3v) ∧ RowKit.Below w.heap.size w W' :=
  callsIn_wide.1 (appendSeq_in Fence.wide 5 trivial trivial rfl (by omega) Bs sv zs (by simp only [maxLen]; omega) (by omega) hreach w hBs hc hI)
set_option maxRecDepth 100000 in
set_option maxHeartbeats 2000000 in
theorem collect_c (Bs : Nat) (sv : Value) (zs : List S3) (hreach : zs.length * 24 ≤ 140737488351232) (w : World) (hBs : Bs < w.heap.size) (hc : w.cell? ⟨Bs, 0, none⟩ = some sv) (hI : Spans w.heap.size w sv zs) :
    Calls Try.prog 71 #[.func (.func 73) #[] #[.pointer (some ⟨Bs, 0, none⟩)]] w fun e W' => ∃ v, e = .returned v ∧ W'.ownsRow w.heap.size 53 3 v zs.length (zs.flatMap s3v) ∧ RowKit.Below w.heap.size w W' := by
  have e78 : ∀ args w, (callFunc 78 args).run Try.prog w = .ok (.enter 78 args) w := enters_of Try.func78 (by kernel_rfl) rfl
  have happ := appendSeq_c Bs sv zs hreach w hBs hc hI
  clear hBs hc hI hreach
  go_enter Try.func71, Try.ntmps71
  go_wp2_with (go_at_fn 78; refine happ.mono ?_; rintro e w' ⟨v, rfl, h1, h2⟩)
  go_ret
  exact ⟨v, rfl, h1, h2⟩
theorem srtS_nil : srtS [] = [] := List.eq_nil_of_length_eq_zero (srtS_len [])
theorem sortAny (zs : List S3) (base : Nat) (v : Value) (w : World) (hbw : base ≤ w.heap.size) (hz : zs.length < 4611686018427387904) (hown : w.ownsRow base 53 3 v zs.length (zs.flatMap s3v)) :
    Calls Try.prog 72 #[v, .func (.func 67) #[] #[]] w fun e w' => e = .returned (.tuple #[]) ∧ w'.ownsRow base 53 3 v zs.length ((srtS zs).flatMap s3v) ∧ RowKit.Below base w w' := by
  rcases hown.2 with ⟨rfl, h0⟩ | ⟨g, cap, cur, rfl, hbase, hb, _⟩
  · obtain rfl : zs = [] := List.eq_nil_of_length_eq_zero h0
    refine Calls.mono (AnyF.slices_SortFunc_none Try.sortS none 0 (.func (.func 67) #[] #[]) w) ?_
    rintro e w' ⟨rfl, rfl⟩
    rw [srtS_nil]
    exact ⟨rfl, hown, RowKit.Below.refl _ _⟩
  · refine (sortFunc_call zs g cap base w hz hown).mono ?_
    rintro e w' ⟨rfl, h1, h2⟩
    exact ⟨rfl, h1, (RowKit.Below.refl base w).grown h2 hbw fun k e => by cases e; exact hbase⟩
set_option maxRecDepth 100000 in
set_option maxHeartbeats 2000000 in
theorem sortedFunc_c (Bs : Nat) (sv : Value) (zs : List S3) (hreach : zs.length * 24 ≤ 140737488351232) (w : World) (hBs : Bs < w.heap.size) (hc : w.cell? ⟨Bs, 0, none⟩ = some sv) (hI : Spans w.heap.size w sv zs) :
    Calls Try.prog 65 #[.func (.func 73) #[] #[.pointer (some ⟨Bs, 0, none⟩)], .func (.func 67) #[] #[]] w fun e W' => ∃ v, e = .returned v ∧ W'.ownsRow w.heap.size 53 3 v zs.length ((srtS zs).flatMap s3v) ∧ RowKit.Below w.heap.size w W' := by
  have e71 : ∀ args w, (callFunc 71 args).run Try.prog w = .ok (.enter 71 args) w := enters_of Try.func71 (by kernel_rfl) rfl
  have e72 : ∀ args w, (callFunc 72 args).run Try.prog w = .ok (.enter 72 args) w := enters_of Try.func72 (by kernel_rfl) rfl
  have hcol := collect_c Bs sv zs hreach w hBs hc hI
  clear hBs hc hI
  go_enter Try.func65, Try.ntmps65
  go_wp2_with (go_at_fn 71; refine hcol.mono ?_; rintro e w1 ⟨v, rfl, h1, h2⟩)
  refine (sortAny zs w.heap.size v w1 h2.size (by omega) h1).mono ?_
  rintro e w2 ⟨rfl, h3, h4⟩
  go_wp2
  go_ret
  exact ⟨v, rfl, h3, h2.trans h4⟩
set_option maxRecDepth 100000 in
set_option maxHeartbeats 2000000 in
theorem sorted_c (a : Option Addr) (len cap : Nat) (zs : List S3) (hreach : zs.length * 24 ≤ 140737488351232) (w : World) (hI : Spans w.heap.size w (.slice a len cap) zs) :
    Calls Try.prog 57 #[.slice a len cap] w fun e W' => ∃ v, e = .returned v ∧ W'.ownsRow w.heap.size 53 3 v zs.length ((srtS zs).flatMap s3v) ∧ RowKit.Below w.heap.size w W' := by
  have e66 : ∀ args w, (callFunc 66 args).run Try.prog w = .ok (.enter 66 args) w := enters_of Try.func66 (by kernel_rfl) rfl
  have e65 : ∀ args w, (callFunc 65 args).run Try.prog w = .ok (.enter 65 args) w := enters_of Try.func65 (by kernel_rfl) rfl
  have hval : Calls Try.prog 66 #[.slice a len cap] w fun e w' => e = .returned (.func (.func 73) #[] #[.pointer (some ⟨w.heap.size, 0, none⟩)]) ∧ w' = w.alloc (.cells #[.slice a len cap] 51) :=
    callsIn_wide.1 (values_in Fence.wide 5 trivial rfl a len cap w)
  have hB0 : RowKit.Below w.heap.size w (w.alloc (.cells #[.slice a len cap] 51)) := (RowKit.Below.refl _ w).alloc (Nat.le_refl _) _
  have hB1 : RowKit.Below (w.alloc (.cells #[.slice a len cap] 51)).heap.size (w.alloc (.cells #[.slice a len cap] 51)) (w.alloc (.cells #[.slice a len cap] 51)) := RowKit.Below.refl _ _
  have hI1 : Spans (w.alloc (.cells #[.slice a len cap] 51)).heap.size (w.alloc (.cells #[.slice a len cap] 51)) (.slice a len cap) zs := (hI.below hB0).up (by simp)
  have hsrt := sortedFunc_c w.heap.size (.slice a len cap) zs hreach (w.alloc (.cells #[.slice a len cap] 51)) (by simp) (by simp [World.cell?_alloc_new]) hI1
  clear hI hI1 hB1
  go_enter Try.func57, Try.ntmps57
  go_wp2_with (first
    | (go_at_fn 66; refine hval.mono ?_; rintro e w1 ⟨rfl, rfl⟩)
    | (go_at_fn 65; refine hsrt.mono ?_; rintro e w1 ⟨v, rfl, h1, h2⟩))
  go_ret
  exact ⟨v, rfl, ownsRow_low h1 (by simp), hB0.trans (h2.mono (by simp))⟩
end Go.Proofs.Ytnfcjdgmhbhecaa.Srt
