/- slices.Values at spans. -/
import Derived.RangeFuncNested
import Derived.RangeFuncBound
import Derived.RangeFuncCalls
import Derived.RangeFuncLeaves
import Derived.RangeFuncBox
import Derived.Shelf.Abstract
import Derived.Shelf.RegionOpen
import Derived.WalkKit
import Derived.OwnWalkIn
import Derived.TacticsInMore
import Derived.LoopNIn
import Derived.LoopIn
import Derived.Maps.AppendAt
import Derived.Test.YtclhjcbnpdlgbaaDoorProg
namespace Go.Proofs.YtclhjcbnpdlgbaaDoor.Srt
open Go Go.RowKit Go.Shelf
attribute [local go_sem] Oper.semAt_some

abbrev S3 := Int × Int × Int
def s3v (x : S3) : List Value := [.int .u16 x.1, .int .u32 x.2.1, .int .i64 x.2.2]
def upto {α : Type} (f : Nat → α) (k : Nat) : List α := (List.range k).map f
theorem upto_succ {α : Type} (f : Nat → α) (k : Nat) : upto f (k + 1) = upto f k ++ [f k] := by simp [upto, List.range_succ]
theorem upto_length {α : Type} (f : Nat → α) (k : Nat) : (upto f k).length = k := by simp [upto]

set_option maxRecDepth 100000 in
set_option maxHeartbeats 2000000 in
theorem values1_in (F : Fence) (n : Nat) (h7 : F.fn 55) (hro : F.round = none) (hn : 1 ≤ n) (l Bs n₀ b off len cap : Nat) (f : Nat → S3) (hreach : len * 24 ≤ 140737488351232) (hb : b < n₀) (J Jx : List S3 → World → Prop) (B : Nat) (hJ : AbidesFrom B J)
    (hY : ∀ pre x W, J pre W → pre.length < len → YieldAt F (n - 1) Tryd.prog l #[.agg #[.int .u16 x.1, .int .u32 x.2.1, .int .i64 x.2.2]] W fun e W' =>
      (e = .returned (.bool true) ∧ J (pre ++ [x]) W' ∧ Below n₀ W W') ∨ (e = .returned (.bool false) ∧ Jx (pre ++ [x]) W'))
    (W : World) (hn₀ : n₀ ≤ W.heap.size) (hBs : W.cell? ⟨Bs, 0, none⟩ = some (.slice (some ⟨b, off, none⟩) len cap)) (hc0 : ∀ j, j < len → W.cell? ⟨b, off + j * 3, none⟩ = some (.int .u16 (f j).1))
    (hc1 : ∀ j, j < len → W.cell? ⟨b, off + j * 3 + 1, none⟩ = some (.int .u32 (f j).2.1)) (hc2 : ∀ j, j < len → W.cell? ⟨b, off + j * 3 + 2, none⟩ = some (.int .i64 (f j).2.2)) (h0 : J [] W) :
    CallsIn F n Tryd.prog 55 #[.func (.yield l) #[] #[], .pointer (some ⟨Bs, 0, none⟩)] W fun e W' => (∃ v, e = .returned v) ∧
      ((∃ ys, ys = upto f len ∧ J ys W') ∨ (∃ pre, (∃ k, k ≤ len ∧ pre = upto f k) ∧ Jx pre W')) := by
  refine callsIn_of_wp Tryd.func55 rfl h7 ?_ hro
  simp only [Tryd.ntmps55, List.size_toArray, List.length_cons, List.length_nil, Nat.reduceAdd, Nat.reduceSub, Array.replicate_succ, Array.replicate_zero, List.push_toArray, List.append_toArray, List.nil_append, List.cons_append]
  gi_wp2
  gi_loopw [7] (fun i wr => ∃ k : Nat, k ≤ len ∧ i = .int .i64 k ∧ J (upto f k) wr ∧ Below n₀ W wr)
    (fun i _ => len - (intOf i).toNat)
  case atStart => exact ⟨0, Nat.zero_le _, rfl, h0, Below.refl _ _⟩
  case round =>
    obtain ⟨k, hk, rfl, hJs, hnx⟩ := hrel
    by_cases hlt : k < len
    · have e0 := (hnx.cell (p := ⟨b, off + k * 3, none⟩) hb).trans (hc0 k hlt)
      have e1 := (hnx.cell (p := ⟨b, off + k * 3 + 1, none⟩) hb).trans (hc1 k hlt)
      have e2 := (hnx.cell (p := ⟨b, off + k * 3 + 2, none⟩) hb).trans (hc2 k hlt)
      have hsz : n₀ ≤ wr.heap.size := Nat.le_trans hn₀ hnx.size
      have hJ' := hJ _ _ (wr.alloc (.cells #[.int .u16 (f k).1, .int .u32 (f k).2.1, .int .i64 (f k).2.2] 67)) none hJs (World.grownBy_alloc wr _ none) (fun r e => by cases e)
      have hnx' : Below n₀ W (wr.alloc (.cells #[.int .u16 (f k).1, .int .u32 (f k).2.1, .int .i64 (f k).2.2] 67)) := hnx.alloc hsz _
      obtain ⟨fn, tmps, assign, body, hy, hR⟩ := hY _ (f k) _ hJ' (by rw [upto_length]; exact hlt)
      gi_wp2
      refine hR.mono ?_
      rintro e W3 (⟨rfl, hJ3, hk3⟩ | ⟨rfl, hJx3⟩)
      · gi_wp2
        go_roundw
        case rel => exact ⟨k + 1, by omega, by simp, by rw [upto_succ]; exact hJ3, hnx'.trans hk3⟩
        case measure => simp [intOf]; omega
      · gi_wp2
        refine bodyPost_ret (results_none rfl _ _ _) rfl ?_
        exact ⟨⟨_, rfl⟩, .inr ⟨_, ⟨k + 1, by omega, (upto_succ _ _).symm⟩, hJx3⟩⟩
    · obtain rfl : k = len := by omega
      gi_wp2
      go_end0
      exact ⟨⟨_, rfl⟩, .inl ⟨_, rfl, hJs⟩⟩

set_option maxRecDepth 100000 in
set_option maxHeartbeats 1000000 in
theorem values1_nil_in (F : Fence) (n : Nat) (h7 : F.fn 55) (hro : F.round = none) (l Bs : Nat) (a : Option Addr) (c : Nat) (J : List S3 → World → Prop) (W : World) (hBs : W.cell? ⟨Bs, 0, none⟩ = some (.slice a 0 c)) (h0 : J [] W) :
    CallsIn F n Tryd.prog 55 #[.func (.yield l) #[] #[], .pointer (some ⟨Bs, 0, none⟩)] W fun e W' => (∃ v, e = .returned v) ∧ J [] W' := by
  refine callsIn_of_wp Tryd.func55 rfl h7 ?_ hro
  simp only [Tryd.ntmps55, List.size_toArray, List.length_cons, List.length_nil, Nat.reduceAdd, Nat.reduceSub, Array.replicate_succ, Array.replicate_zero, List.push_toArray, List.append_toArray, List.nil_append, List.cons_append]
  gi_wp2
  gi_loopw [7] (fun i wr => i = .int .i64 0 ∧ J [] wr) (fun _ _ => 0)
  case atStart => exact ⟨rfl, h0⟩
  case round =>
    obtain ⟨rfl, hJs⟩ := hrel
    gi_wp2
    go_end0
    exact ⟨⟨_, rfl⟩, hJs⟩

set_option maxHeartbeats 1000000 in
theorem values_in (F : Fence) (n : Nat) (h5 : F.fn 49) (hro : F.round = none) (a : Option Addr) (len cap : Nat) (w : World) :
    CallsIn F n Tryd.prog 49 #[.slice a len cap] w fun e w' => e = .returned (.func (.func 55) #[] #[.pointer (some ⟨w.heap.size, 0, none⟩)]) ∧ w' = w.alloc (.cells #[.slice a len cap] 26) := by
  refine callsIn_of_wp Tryd.func49 rfl h5 ?_ hro
  simp only [Tryd.ntmps49, List.size_toArray, List.length_cons, List.length_nil, Nat.reduceAdd, Nat.reduceSub, Array.replicate_succ, Array.replicate_zero, List.push_toArray, List.append_toArray, List.nil_append, List.cons_append]
  gi_wp2
  go_ret
  exact ⟨rfl, rfl⟩
/-- the slice value sv holds the spans zs, in a block below n₀; or there are none -/
def Spans (n₀ : Nat) (W : World) (sv : Value) (zs : List S3) : Prop :=
  (∃ a c, sv = .slice a 0 c ∧ zs = []) ∨ ∃ b off cap, sv = .slice (some ⟨b, off, none⟩) zs.length cap ∧ b < n₀ ∧ ∀ (j : Nat) (x : S3), zs[j]? = some x → W.cell? ⟨b, off + j * 3, none⟩ = some (.int .u16 x.1) ∧ W.cell? ⟨b, off + j * 3 + 1, none⟩ = some (.int .u32 x.2.1) ∧ W.cell? ⟨b, off + j * 3 + 2, none⟩ = some (.int .i64 x.2.2)
theorem Spans.below {n₀ : Nat} {A B : World} (h : Below n₀ A B) {sv : Value} {zs : List S3} : Spans n₀ A sv zs → Spans n₀ B sv zs
  | .inl e => .inl e
  | .inr ⟨b, off, cap, e, hb, hc⟩ => .inr ⟨b, off, cap, e, hb, fun j x hx => by
    obtain ⟨h1, h2, h3⟩ := hc j x hx
    exact ⟨(h.cell (p := ⟨b, off + j * 3, none⟩) hb).trans h1, (h.cell (p := ⟨b, off + j * 3 + 1, none⟩) hb).trans h2, (h.cell (p := ⟨b, off + j * 3 + 2, none⟩) hb).trans h3⟩⟩
theorem upto_all (zs : List S3) : upto (fun j => zs[j]?.getD (0, 0, 0)) zs.length = zs := by
  apply List.ext_getElem
  · simp [upto]
  · intro i h1 h2
    simp [upto, h2]
theorem upto_take (zs : List S3) {k : Nat} (hk : k ≤ zs.length) : upto (fun j => zs[j]?.getD (0, 0, 0)) k = zs.take k := by
  apply List.ext_getElem
  · simp [upto, hk]
  · intro i h1 h2
    have : i < zs.length := by simp [upto] at h1; omega
    simp [upto, this]
theorem values_stops (F : Fence) (n : Nat) (h7 : F.fn 55) (hro : F.round = none) (hn : 1 ≤ n) (Bs n₀ : Nat) (sv : Value) (zs : List S3) (hreach : zs.length * 24 ≤ 140737488351232) (w : World) (hBs : Bs < w.heap.size) (hn₀ : n₀ ≤ w.heap.size)
    (hc : w.cell? ⟨Bs, 0, none⟩ = some sv) (hI : Spans n₀ w sv zs) :
    SeqStopsK F n Tryd.prog 55 #[.pointer (some ⟨Bs, 0, none⟩)] (fun x : S3 => #[Value.agg #[.int .u16 x.1, .int .u32 x.2.1, .int .i64 x.2.2]]) (Below n₀) (fun ys => ys = zs) (fun pre => pre <+: zs) zs.length w := fun l J Jx W hW hJ _ hY h0 => by
  have hc' := (hW.cell (p := ⟨Bs, 0, none⟩) hBs).trans hc
  rcases hI.below (hW.mono hn₀) with ⟨a, c, rfl, rfl⟩ | ⟨b, off, cap, rfl, hb, hcs⟩
  · exact (values1_nil_in F n h7 hro l Bs a c J W hc' h0).mono fun e W' ⟨he, hj⟩ => ⟨he, .inl ⟨_, rfl, hj⟩⟩
  · have hcs' : ∀ j, j < zs.length → zs[j]? = some (zs[j]?.getD (0, 0, 0)) := fun j hj => by rw [List.getElem?_eq_getElem hj]; rfl
    refine (values1_in F n h7 hro hn l Bs n₀ b off zs.length cap (fun j => zs[j]?.getD (0, 0, 0)) hreach hb J Jx W.heap.size hJ hY W (Nat.le_trans hn₀ hW.size) hc' (fun j hj => (hcs j _ (hcs' j hj)).1) (fun j hj => (hcs j _ (hcs' j hj)).2.1) (fun j hj => (hcs j _ (hcs' j hj)).2.2) h0).mono ?_
    · rintro e W' ⟨he, ⟨ys, rfl, hj⟩ | ⟨pre, ⟨k, hk, rfl⟩, hj⟩⟩
      · exact ⟨he, .inl ⟨_, upto_all zs, hj⟩⟩
      · exact ⟨he, .inr ⟨_, by rw [upto_take zs hk]; exact List.take_prefix _ _, hj⟩⟩
end Go.Proofs.YtclhjcbnpdlgbaaDoor.Srt
