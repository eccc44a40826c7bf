/- ident.ID.Compare, at the machine. -/
import Derived.Deep.QuietTactic
import Derived.Shelf.RegionOpenPlain
import Derived.Deep.LoopGhost
import Derived.Lib.Walk
import Derived.LoopTactic
import Derived.Shelf.Spec.SlicesInsert
import Derived.Sort.Grow
import Derived.Shelf.SlSortCmp.WholeK
import Derived.Test.YtclhjcbnpdlgbaaDoorLXBA2
import Derived.Test.YtclhjcbnpdlgbaaDoorLA3
namespace Go.Proofs.YtclhjcbnpdlgbaaDoor.Srt
open Go Go.RowKit Go.Shelf Go.Lib Go.Sort

theorem mixed : Tryd.prog.follows .mixedOrders = true := by kernel_rfl
def toI : Value → Int
  | .int _ n => n
  | _ => 0
def orI (x y : Int) : Int := if x = 0 then y else x
def cmpI (x y : Int) : Int := if x < y then -1 else if y < x then 1 else 0
set_option maxHeartbeats 1000000 in
theorem nan16 (x : Int) (w : World) : Calls Tryd.prog 62 #[.int .u16 x] w fun e w' => e = .returned (.bool false) ∧ w' = w := by
  have t3 := Tryd.underlying22; have a3 := Tryd.isAgg22; have z3 := Tryd.sizeOf22; have v3 := Tryd.zeroValue22; have t4 := Tryd.underlying4; have a4 := Tryd.isAgg4
  go_enter Tryd.func62, Tryd.ntmps62
  go_wp2
  go_ret
  exact ⟨by simp, rfl⟩
set_option maxHeartbeats 1000000 in
theorem nan32 (x : Int) (w : World) : Calls Tryd.prog 63 #[.int .u32 x] w fun e w' => e = .returned (.bool false) ∧ w' = w := by
  have t3 := Tryd.underlying23; have a3 := Tryd.isAgg23; have z3 := Tryd.sizeOf23; have v3 := Tryd.zeroValue23; have t4 := Tryd.underlying4; have a4 := Tryd.isAgg4
  go_enter Tryd.func63, Tryd.ntmps63
  go_wp2
  go_ret
  exact ⟨by simp, rfl⟩
set_option maxRecDepth 100000 in
set_option maxHeartbeats 1000000 in
theorem cmp16 (x y : Int) (w : World) : Calls Tryd.prog 57 #[.int .u16 x, .int .u16 y] w fun e w' => e = .returned (.int .i64 (cmpI x y)) ∧ w' = w := by
  have t3 := Tryd.underlying22; have a3 := Tryd.isAgg22; have z3 := Tryd.sizeOf22; have v3 := Tryd.zeroValue22; have t4 := Tryd.underlying4; have a4 := Tryd.isAgg4
  have e59 : ∀ args w, (callFunc 62 args).run Tryd.prog w = .ok (.enter 62 args) w := enters_of Tryd.func62 (by kernel_rfl) rfl
  go_enter Tryd.func57, Tryd.ntmps57
  go_wp2_with (go_at_fn 62; refine (nan16 _ _).mono ?_; rintro e w' ⟨rfl, hw⟩; rw [hw])
  all_goals (go_ret; refine ⟨?_, rfl⟩; unfold cmpI; (repeat' split) <;> first | rfl | (exfalso; omega))
set_option maxRecDepth 100000 in
set_option maxHeartbeats 1000000 in
theorem cmp32 (x y : Int) (w : World) : Calls Tryd.prog 58 #[.int .u32 x, .int .u32 y] w fun e w' => e = .returned (.int .i64 (cmpI x y)) ∧ w' = w := by
  have t3 := Tryd.underlying23; have a3 := Tryd.isAgg23; have z3 := Tryd.sizeOf23; have v3 := Tryd.zeroValue23; have t4 := Tryd.underlying4; have a4 := Tryd.isAgg4
  have e60 : ∀ args w, (callFunc 63 args).run Tryd.prog w = .ok (.enter 63 args) w := enters_of Tryd.func63 (by kernel_rfl) rfl
  go_enter Tryd.func58, Tryd.ntmps58
  go_wp2_with (go_at_fn 63; refine (nan32 _ _).mono ?_; rintro e w' ⟨rfl, hw⟩; rw [hw])
  all_goals (go_ret; refine ⟨?_, rfl⟩; unfold cmpI; (repeat' split) <;> first | rfl | (exfalso; omega))
set_option maxRecDepth 100000 in
set_option maxHeartbeats 2000000 in
theorem or2 (b c : Nat) (x y : Int) (w : World) (h0 : w.cell? ⟨b, 0, none⟩ = some (.int .i64 x)) (h1 : w.cell? ⟨b, 1, none⟩ = some (.int .i64 y)) :
    Calls Tryd.prog 56 #[.slice (some ⟨b, 0, none⟩) 2 c] w fun e w' => e = .returned (.int .i64 (orI x y)) ∧ w' = w := by
  unfold orI
  go_enter Tryd.func56, Tryd.ntmps56
  go_wp2
  go_loop [5, 8] (fun (u i : Value) => ∃ k : Nat, k ≤ 2 ∧ i = .int .i64 k ∧ (1 ≤ k → x = 0) ∧ (2 ≤ k → y = 0)) (fun (u i : Value) => 2 - (toI i).toNat)
  case atStart => exact ⟨0, by omega, rfl, fun h => by omega, fun h => by omega⟩
  case round =>
    obtain ⟨k, hk, rfl, hx, hy⟩ := hrel
    rcases Nat.lt_or_ge k 2 with hlt | hge
    · rcases Nat.lt_or_ge k 1 with h01 | h01
      · obtain rfl : k = 0 := by omega
        go_wp2
        · exfalso
          simp_all
        · go_ret
          exact ⟨rfl, rfl⟩
        · rename_i e1
          exact ⟨⟨1, by omega, rfl, fun _ => by simpa using e1, fun h => by omega⟩, by simp [toI]⟩
      · obtain rfl : k = 1 := by omega
        have hx0 := hx (by omega)
        subst hx0
        go_wp2
        · go_ret
          exact ⟨rfl, rfl⟩
        · rename_i e1
          exact ⟨⟨2, by omega, rfl, fun _ => trivial, fun _ => by simpa using e1⟩, by simp [toI]⟩
    · obtain rfl : k = 2 := by omega
      have hx0 := hx (by omega)
      have hy0 := hy (by omega)
      subst hx0 hy0
      go_wp2
      go_ret
      exact ⟨rfl, rfl⟩
theorem cell_top (W : World) (arr : Array Value) (T : TypeId) (n k : Nat) (hn : n = W.heap.size) : (W.alloc (.cells arr T)).cell? ⟨n, k, none⟩ = arr[k]? := by
  subst hn
  exact World.cell?_alloc_new W arr T k
theorem cell_topd (W : World) (arr : Array Value) (T : TypeId) (n k : Nat) (v : Value) (hn : n = W.heap.size) (hv : arr[k]? = some v) : ((W.alloc (.cells arr T)).drew).cell? ⟨n, k, none⟩ = some v := (cell_top W arr T n k hn).trans hv
theorem grow3 (w : World) (n : Nat) (a b c : Obj) : (((w.alloc a).alloc b).drewN n).alloc c = grow (w.drewN n) #[a, b, c] := by
  show (((w.drewN n).alloc a).alloc b).alloc c = _
  rw [alloc_eq_grow, alloc_eq_grow, alloc_eq_grow, grow_grow, grow_grow]; rfl
set_option maxRecDepth 100000 in
set_option maxHeartbeats 4000000 in
theorem idcmp (r1 n1 r2 n2 : Int) (w : World) : Calls Tryd.prog 51 #[.agg #[.int .u16 r1, .int .u32 n1], .agg #[.int .u16 r2, .int .u32 n2]] w fun e w' =>
    e = .returned (.int .i64 (orI (cmpI r1 r2) (cmpI n1 n2))) ∧ ∃ q os, w' = grow (w.drewN q) os := by
  have hmixed := mixed
  have e43 : ∀ args w, (callFunc 57 args).run Tryd.prog w = .ok (.enter 57 args) w := enters_of Tryd.func57 (by kernel_rfl) rfl
  have e44 : ∀ args w, (callFunc 58 args).run Tryd.prog w = .ok (.enter 58 args) w := enters_of Tryd.func58 (by kernel_rfl) rfl
  have e41 : ∀ args w, (callFunc 56 args).run Tryd.prog w = .ok (.enter 56 args) w := enters_of Tryd.func56 (by kernel_rfl) rfl
  go_enter Tryd.func51, Tryd.ntmps51
  go_wp2_with fail
  have l10 : (w.alloc (.cells #[.int .u16 r1, .int .u32 n1] 25)).heap.size = w.heap.size + 1 := by simp
  have f0 : ∀ n, ((((w.alloc (.cells #[.int .u16 r1, .int .u32 n1] 25)).alloc (.cells #[.int .u16 r2, .int .u32 n2] 25)).drewN n).cell? ⟨w.heap.size, 0, none⟩) = some (.int .u16 r1) := fun n => by
    rw [World.cell?_drewN]; exact (World.cell?_alloc_past (w := w.alloc (.cells #[.int .u16 r1, .int .u32 n1] 25)) _ w.heap.size 0 (by rw [l10]; omega)).trans ((cell_top w _ _ _ _ rfl).trans rfl)
  have f1 : ∀ n, ((((w.alloc (.cells #[.int .u16 r1, .int .u32 n1] 25)).alloc (.cells #[.int .u16 r2, .int .u32 n2] 25)).drewN n).cell? ⟨w.heap.size, 1, none⟩) = some (.int .u32 n1) := fun n => by
    rw [World.cell?_drewN]; exact (World.cell?_alloc_past (w := w.alloc (.cells #[.int .u16 r1, .int .u32 n1] 25)) _ w.heap.size 1 (by rw [l10]; omega)).trans ((cell_top w _ _ _ _ rfl).trans rfl)
  have f2 : ∀ n, ((((w.alloc (.cells #[.int .u16 r1, .int .u32 n1] 25)).alloc (.cells #[.int .u16 r2, .int .u32 n2] 25)).drewN n).cell? ⟨w.heap.size + 1, 0, none⟩) = some (.int .u16 r2) := fun n => by
    rw [World.cell?_drewN]; exact (cell_top _ _ _ _ _ l10.symm).trans rfl
  have f3 : ∀ n, ((((w.alloc (.cells #[.int .u16 r1, .int .u32 n1] 25)).alloc (.cells #[.int .u16 r2, .int .u32 n2] 25)).drewN n).cell? ⟨w.heap.size + 1, 1, none⟩) = some (.int .u32 n2) := fun n => by
    rw [World.cell?_drewN]; exact (cell_top _ _ _ _ _ l10.symm).trans rfl
  generalize hW : (w.alloc (.cells #[.int .u16 r1, .int .u32 n1] 25)).alloc (.cells #[.int .u16 r2, .int .u32 n2] 25) = W at *
  refine Lift.wp_region_pre (C := fun w' => ∃ n, w' = W.drewN n) (Q := fun a' => ∀ w', (∃ n, w' = W.drewN n) → wpAny Tryd.prog .any _ _ 3 _ a' w') 10 hmixed (by decide) (by kernel_rfl) ⟨1, rfl⟩ ?_ (fun a' w' hw' h => h w' hw')
  simp only [List.take_succ_cons, List.take_zero]
  repeat (quiet_step (first
    | (go_at_fn 57; exact (cmp16 _ _ _).mono fun _ _ ⟨h1, h2⟩ => ⟨h1, _, h2⟩)
    | (go_at_fn 58; exact (cmp32 _ _ _).mono fun _ _ ⟨h1, h2⟩ => ⟨h1, _, h2⟩)))
  refine wpQuiet_nil ?_
  rintro w1 ⟨nq, rfl⟩
  have hsz : (W.drewN nq).heap.size = w.heap.size + 1 + 1 := by show W.heap.size = _; rw [← hW]; simp
  refine wpAny_ready (rs := [10]) (by kernel_rfl) (by simp) ?_
  refine AllReady.cons rfl (fun K hK => ?_) AllReady.nil
  go_simp
  refine hK _ _ ?_
  clear hK K
  refine wpAny_ready (rs := [11]) (by kernel_rfl) (by simp) ?_
  refine AllReady.cons rfl (fun K hK => ?_) AllReady.nil
  go_simp
  go_at_fn 56
  refine (or2 _ _ (cmpI r1 r2) (cmpI n1 n2) _ ((cell_top _ _ _ _ _ rfl).trans rfl) ((cell_top _ _ _ _ _ rfl).trans rfl)).mono ?_
  rintro e w' ⟨rfl, hw⟩
  rw [hw]
  go_simp
  refine hK _ _ ?_
  clear hK K
  refine wpAny_ready (rs := [12]) (by kernel_rfl) (by simp) ?_
  refine AllReady.cons rfl (fun K hK => ?_) AllReady.nil
  go_simp
  refine hK _ _ ?_
  clear hK K
  refine wpAny_done (by kernel_rfl) ?_ _
  go_wp2
  go_ret
  refine ⟨rfl, nq, #[.cells #[.int .u16 r1, .int .u32 n1] 25, .cells #[.int .u16 r2, .int .u32 n2] 25, .cells #[.int .i64 (cmpI r1 r2), .int .i64 (cmpI n1 n2)] 3], ?_⟩
  rw [← hW]
  exact grow3 w nq _ _ _
set_option maxRecDepth 100000 in
set_option maxHeartbeats 4000000 in
theorem spancmp (x y : S3) (w : World) : Calls Tryd.prog 50 #[.agg (s3v x).toArray, .agg (s3v y).toArray] w fun e w' =>
    e = .returned (.int .i64 (orI (cmpI x.1 y.1) (cmpI x.2.1 y.2.1))) ∧ ∃ q os, w' = grow (w.drewN q) os := by
  unfold s3v
  have e13 : ∀ args w, (callFunc 51 args).run Tryd.prog w = .ok (.enter 51 args) w := enters_of Tryd.func51 (by kernel_rfl) rfl
  go_enter Tryd.func50, Tryd.ntmps50
  go_wp2_with (go_at_fn 51; refine (idcmp _ _ _ _ _).mono ?_; rintro e w' ⟨rfl, q, os, hw⟩; rw [hw])
  go_ret
  refine ⟨rfl, q, #[.cells #[.int .u16 x.1, .int .u32 x.2.1, .int .i64 x.2.2] 67, .cells #[.int .u16 y.1, .int .u32 y.2.1, .int .i64 y.2.2] 67] ++ os, ?_⟩
  show grow (((w.drewN q).alloc _).alloc _) os = _
  rw [alloc_eq_grow, alloc_eq_grow, grow_grow, grow_grow, ← Array.append_assoc]
  rfl
end Go.Proofs.YtclhjcbnpdlgbaaDoor.Srt
