/- slices.AppendSeq, slices.Collect at spans. -/
import Derived.Test.YtclhjcbnpdlgbaaDoorLXBA1
namespace Go.Proofs.YtclhjcbnpdlgbaaDoor.Srt
open Go Go.RowKit Go.Shelf
attribute [local go_sem] Oper.semAt_some

theorem infoS3 : (Tryd.prog.info? 67).map (fun i => (i.zero, i.size, i.bytes)) = some (some (.agg #[.int .u16 0, .int .u32 0, .int .i64 0]), 3, 16) := by kernel_rfl
theorem flat_len : ∀ zs : List S3, (zs.flatMap s3v).length = zs.length * 3
  | [] => rfl
  | x :: zs => by rw [List.flatMap_cons, List.length_append, flat_len zs]; simp [s3v]; omega
def fv (Bs : Nat) : Value := .func (.func 55) #[] #[.pointer (some ⟨Bs, 0, none⟩)]
theorem row3_own {β : Type} (T : TypeId) (B : Nat) (arr : Array Value) : Own (fun (_ : β) W => W.heap[B]? = some (.cells arr T (0, 0))) := fun s X Y row hs hg hrow =>
  (hg.block B (Array.getElem?_eq_some_iff.1 hs).1 (fun e' => by obtain ⟨o, ho, hc⟩ := hrow B e'.symm; rw [hs] at ho; cases ho; cases hc)).trans hs

theorem cells_new3 (W : World) (x : S3) : ∀ (j : Nat) (u : Value), (s3v x)[j]? = some u → (W.alloc (.cells #[.int .u16 x.1, .int .u32 x.2.1, .int .i64 x.2.2] 67)).cell? ((⟨W.heap.size, 0, none⟩ : Addr).add j) = some u := fun j u hj => by
  rw [Addr.add_lit, Nat.zero_add, World.cell?_alloc_new]
  simpa [s3v] using hj
set_option maxRecDepth 100000 in
set_option maxHeartbeats 4000000 in
theorem appendSeq_in (F : Fence) (n : Nat) (h78 : F.fn 59) (h73 : F.fn 55) (hro : F.round = none) (hn : 3 ≤ n) (Bs : Nat) (sv : Value) (zs : List S3) (hlen : zs.length ≤ maxLen) (hbytes : zs.length * 16 ≤ 140737488355328) (hreach : zs.length * 24 ≤ 140737488351232) (w : World)
    (hBs : Bs < w.heap.size) (hc : w.cell? ⟨Bs, 0, none⟩ = some sv) (hI : Spans w.heap.size w sv zs) :
    CallsIn F n Tryd.prog 59 #[.slice none 0 0, .func (.func 55) #[] #[.pointer (some ⟨Bs, 0, none⟩)]] w fun e W' => ∃ v, e = .returned v ∧ W'.ownsRow w.heap.size 67 3 v zs.length (zs.flatMap s3v) ∧ Below w.heap.size w W' := by
  have h1 : 1 ≤ n := by omega
  obtain ⟨i0, hi, hz0, hz1, hz2⟩ := info_parts infoS3
  refine callsIn_of_wp_marks Tryd.func59 rfl h78 ?_ hro
  simp only [Tryd.ntmps59, List.size_toArray, List.length_cons, List.length_nil, Nat.reduceAdd, Nat.reduceSub, Array.replicate_succ, Array.replicate_zero, List.push_toArray, List.append_toArray, List.nil_append, List.cons_append]
  gi_wp2
  have bO := Boxed.new w 26 (.slice none 0 0)
  have hB0 : Below w.heap.size w (w.alloc (.cells #[.slice none 0 0] 26)) := (Below.refl _ w).alloc (Nat.le_refl _) _
  have hcb : (w.alloc (.cells #[.slice none 0 0] 26)).cell? ⟨Bs, 0, none⟩ = some sv := (hB0.cell (p := ⟨Bs, 0, none⟩) hBs).trans hc
  refine wpIn_rangeFunc_ownH hro h1 (gf := 55) (lb := #[.pointer (some ⟨Bs, 0, none⟩)]) rfl h73 (enters_of Tryd.func55 (by kernel_rfl) rfl)
    (values_stops F (n - 1) h73 hro (by omega) Bs w.heap.size sv zs hreach _ (by simp; omega) (by simp) hcb (hI.below hB0)) belowK_t (belowK_b (by simp)) (Below.refl _ _) (fun _ => rfl)
    (fun pre W => (∃ v, Boxed W w.heap.size 26 v ∧ W.ownsRow w.heap.size 67 3 v pre.length (pre.flatMap s3v) ∧ True) ∧ Below w.heap.size w W)
    (fun _ _ _ => False)
    (OwnFrom.and (Own.from (holdsRow_own w.heap.size w.heap.size 26 67 3 (fun pre : List S3 => pre.length) (fun pre => pre.flatMap s3v) (fun _ _ => True)) _) (ownFrom_below (Nat.le_refl _) (by simp)))
    (fun _ _ _ _ _ hs _ _ => hs)
    ⟨⟨_, bO, World.ownsRow_nil _ _ _ _, trivial⟩, hB0⟩
    (fun x a' W => ∃ Bx, w.heap.size < Bx ∧ W.heap[Bx]? = some (.cells #[.int .u16 x.1, .int .u32 x.2.1, .int .i64 x.2.2] 67 (0, 0)) ∧ a' = { tmps := #[.slice none 0 0, .func (.func 55) #[] #[.pointer (some ⟨Bs, 0, none⟩)], .pointer (some ⟨w.heap.size, 0, none⟩), undef, .slice none 0 0, .pointer (some ⟨Bx, 0, none⟩), .func (.func 55) #[] #[.pointer (some ⟨Bs, 0, none⟩)], .agg #[.int .u16 x.1, .int .u32 x.2.1, .int .i64 x.2.2], undef, undef, undef, undef, undef], defers := [] })
    (fun x a' _ X Y row hs hg hr => by obtain ⟨Bx, h1, h2, h3⟩ := hs; exact ⟨Bx, h1, row3_own (β := Unit) 67 Bx _ () X Y row h2 hg (fun r e => (hr r e).2), h3⟩)
    ?assign ?body ?done ?stop
  case assign =>
    rintro l pre x W K ⟨⟨v, hv, hrow, _⟩, hB⟩ hK
    gi_wp2
    exact hK _ _ ((KeepsOthers.alloc _ _).from _) ((Below.refl _ W).alloc hB.size _) ⟨⟨v, hv.alloc _, hrow.alloc _, trivial⟩, hB.alloc hB.size _⟩ ⟨W.heap.size, hv.lt, World.alloc_heap_new W _, rfl⟩
  case body =>
    rintro l pre x a' W hl ⟨r, hr⟩ ⟨⟨v, hv, hrow, _⟩, hB⟩ ⟨Bx, hBx, bX, rfl⟩ hlt
    have hcv := hv.cell
    have hx0 : W.cell? ⟨Bx, 0, none⟩ = some (.int .u16 x.1) := by simp [World.cell?, bX]
    have hx1 : W.cell? ⟨Bx, 1, none⟩ = some (.int .u32 x.2.1) := by simp [World.cell?, bX]
    have hx2 : W.cell? ⟨Bx, 2, none⟩ = some (.int .i64 x.2.2) := by simp [World.cell?, bX]
    gi_wp2_with (gi_at_builtin; refine wpListIn_append_own _ rfl _ _ 26 rfl w.heap.size 67 i0 (.agg #[.int .u16 0, .int .u32 0, .int .i64 0]) 3 16 Tryd.underlying26 hi hz0 hz1 hz2 rfl (by decide) _ _ _ rfl (hrow.alloc _) ⟨W.heap.size, 0, none⟩ 1 1 (s3v x) rfl rfl (cells_new3 W x) (by simp [s3v, Value.oneCell']) (by omega) (by omega) (by have := hB.size; simp; omega) ?_; intro v' w1 hown' hgrow _; obtain ⟨g', cap', rfl⟩ := ownsRow_succ hown'; obtain ⟨hv1, hv2, hr2, hk2, hb2⟩ := hv.appended (by decide) hrow hB.size (Nat.le_refl _) hown' hgrow; have hc1 := hv1.cell; have hf1 := hv1.frozen)
    exact ⟨hk2.from _, hb2, ⟨_, hv2, by simpa using hr2, trivial⟩, hB.trans hb2⟩
  case done =>
    rintro D ys W hD rfl ⟨⟨v, hv, hrow, _⟩, hB⟩ hK
    have hcv := hv.cell
    gi_wp2
    refine ⟨by simp, .inl ⟨_, _, rfl, run_takeDeferred hK, ?_⟩⟩
    exact ⟨_, results_tmp rfl _ _ _, v, rfl, ownsRow_putObj hrow _ hK rfl, hB.trans (belowK_b (w := w) (Nat.le_refl _) W D _ _ (by simp at hD; omega) hK rfl rfl)⟩
  case stop =>
    rintro D c pre W _ _ h _
    exact h.elim
end Go.Proofs.YtclhjcbnpdlgbaaDoor.Srt
