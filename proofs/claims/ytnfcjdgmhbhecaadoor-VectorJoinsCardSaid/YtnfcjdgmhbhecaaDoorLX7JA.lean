/- slices.Insert at vector.Vector: in place. -/
import Derived.Test.YtnfcjdgmhbhecaaDoorLX7J5
import Derived.Test.YtnfcjdgmhbhecaaDoorLA3
namespace Go.Proofs.YtnfcjdgmhbhecaaDoor
open Go Go.Lift Go.Lib
set_option maxHeartbeats 4000000
set_option maxRecDepth 100000
set_option linter.unusedSimpArgs false
set_option linter.unusedVariables false

theorem ins_shift (g n c i gv m vc : Nat) (cur curv : Array Value) (us vs : List Value) (w : World) (hi : i < n) (hm : 0 < m) (hroom : n + m ≤ c) (hc63 : c ≤ 9223372036854775807) (hne : gv ≠ g)
    (hg : w.heap[g]? = some (.cells cur 118 (0, 0))) (hcur : cur.size = c * 2) (hgv : w.heap[gv]? = some (.cells curv 118 (0, 0)))
    (hus : us.length = (n - i) * 2) (hu : ∀ (j : Nat) (v : Value), us[j]? = some v → cur[i * 2 + j]? = some v) (hvs : vs.length = m * 2) (hv : ∀ (j : Nat) (v : Value), vs[j]? = some v → curv[j]? = some v) (h1c : ∀ v ∈ us, v.oneCell' = true) (h1v : ∀ v ∈ vs, v.oneCell' = true) :
    Calls Tryd.prog 75 #[.slice (some ⟨g, 0, none⟩) n c, .int .i64 i, .slice (some ⟨gv, 0, none⟩) m vc] w fun e w' =>
      e = .returned (.slice (some ⟨g, 0, none⟩) (n + m) c) ∧ w' = (w.drew.setRow g (spl cur ((i + m) * 2) us)).setRow g (spl (spl cur ((i + m) * 2) us) (i * 2) vs) := by
  have hmixed := mixed
  obtain ⟨i0, hi0, hi1, hi2⟩ : ∃ i0, (Tryd.prog).info? 118 = some i0 ∧ i0.size = 2 ∧ True := ⟨_, rfl, rfl, trivial⟩
  have u1 : (Tryd.prog).underlying 58 = some (.slice 118) := by kernel_rfl
  have u2 : (Tryd.prog).underlying 57 = some (.slice 118) := by kernel_rfl
  have v1 := fun w => run_underlying (w := w) u1
  have v2 := fun w => run_underlying (w := w) u2
  have z1 : ∀ w, (Go.sizeOf 118).run Tryd.prog w = .ok 2 w := fun w => by simp [sizeOf, typeInfo, hi0, hi1]
  have hz1 : ¬ ((m : Int) = 0) := by omega
  have hz2 : ¬ ((i : Int) = (n : Int)) := by omega
  have hcell : ∀ j, w.cell? ⟨g, j, none⟩ = cur[j]? := fun j => cell_of_row w g j cur _ _ hg
  have hcp1 : ∀ ty dc sc, (Builtin.copy_ #[58, 58] ty #[.slice (some ⟨g, (i + m) * 2, none⟩) (n + m - (i + m)) dc, .slice (some ⟨g, i * 2, none⟩) (n + m - i) sc]).run Tryd.prog w.drew = .ok (goInt (n - i : Nat)) (w.drew.setRow g (spl cur ((i + m) * 2) us)) := fun ty dc sc =>
    run_copyR w.drew u1 hi0 (g := g) (T := 118) (arr := cur) hg _ _ _ _ _ (n - i) us (by omega) (by rw [hus, hi1]) (fun j v hj => by
      rw [Addr.add_lit]
      exact (hcell _).trans (hu j v hj)) (by rw [hus, hcur]; omega) h1c
  have hsz := spl_size cur ((i + m) * 2) us (by rw [hus, hcur]; omega)
  obtain ⟨W1, hW1⟩ : ∃ W1, W1 = w.drew.setRow g (spl cur ((i + m) * 2) us) := ⟨_, rfl⟩
  have hgv1 : W1.heap[gv]? = some (.cells curv 118 (0, 0)) := by
    rw [hW1, setRow_other _ _ _ _ hne]; exact hgv
  have hcp2 : ∀ ty dc, (Builtin.copy_ #[58, 57] ty #[.slice (some ⟨g, i * 2, none⟩) (n + m - i) dc, .slice (some ⟨gv, 0, none⟩) m vc]).run Tryd.prog W1 = .ok (goInt (m : Nat)) (W1.setRow g (spl (spl cur ((i + m) * 2) us) (i * 2) vs)) := fun ty dc =>
    run_copyR W1 u1 hi0 (g := g) (T := 118) (arr := spl cur ((i + m) * 2) us) (by rw [hW1]; exact setRow_heap w.drew g cur _ _ _ hg) _ _ _ _ _ m vs (by omega) (by rw [hvs, hi1]) (fun j v hj => by
      rw [Addr.add_lit, Nat.zero_add]
      exact (cell_of_row _ gv j curv _ _ hgv1).trans (hv j v hj)) (by rw [hsz, hvs, hcur]; omega) h1v
  subst hW1
  have hov : ∀ lb cb, (callFunc 91 #[.slice (some ⟨gv, 0, none⟩) m vc, .slice (some ⟨g, (i + m) * 2, none⟩) lb cb]).run Tryd.prog w = .ok (.value (.bool false)) w := fun lb cb => by
    rw [run_callFunc_extern Tryd.func91 (by kernel_rfl) (by kernel_rfl) (by kernel_rfl) (e := Extern.SlicesOverlaps.overlaps #[57, 57] #[4]) (by kernel_rfl),
      Lib.run_overlaps_apart w 57 4 118 u2 2 z1 ⟨gv, 0, none⟩ ⟨g, (i + m) * 2, none⟩ m vc lb cb hne 118 118 curv.size cur.size (by simp [World.shape?, hgv]) (by simp [World.shape?, hg]) (by omega) (by simp [World.frozen?, hgv]) (by simp [World.frozen?, hgv])]
    rfl
  have hw1 : IntKind.i64.wrap ((i : Int) + (m : Int)) = (i : Int) + (m : Int) := by rw [IntKind.wrap_i64]; omega
  have hb1 : (0 : Int) ≤ (i : Int) + (m : Int) := by omega
  have hin : i ≤ n := by omega
  have htn : ((i : Int) + (m : Int)).toNat = i + m := by omega
  have hb2 : ¬ (c = i + m) := by omega
  have hb3 : (i : Int) ≤ (n : Int) + (m : Int) := by omega
  have hb4 : ¬ (c = i) := by omega
  clear hus hu hvs hv h1c h1v hcur hsz hcell hgv1 hg hgv
  go_enter Tryd.func75, Tryd.ntmps75
  go_wp2_with (simp only [hov])
  go_region_law_o (refine step_copy_runI rfl _ _ 58 58 rfl _ _ (by simp [Act.eval, Act.put]) (by simp [Act.eval, Act.put]) (hcp1 _ _ _) ?_)
  go_wp2_with (at_builtin; refine wpList_copy_runI _ rfl _ _ 58 57 rfl _ _ rfl rfl (hcp2 _ _) ?_)
  go_ret
  exact ⟨rfl, rfl⟩

theorem ins_end (base : Option Addr) (n c gv m vc : Nat) (w w1 : World) (v : Value) (hm : 0 < m) (hnc : n ≤ c) (hc63 : c ≤ 9223372036854775807)
    (hrun : ∀ ty, (Builtin.append_ #[58, 57] ty #[.slice base n c, .slice (some ⟨gv, 0, none⟩) m vc]).run Tryd.prog w = .ok v w1) :
    Calls Tryd.prog 75 #[.slice base n c, .int .i64 n, .slice (some ⟨gv, 0, none⟩) m vc] w fun e w' => e = .returned v ∧ w' = w1 := by
  have hmixed := mixed
  have u1 : (Tryd.prog).underlying 58 = some (.slice 118) := by kernel_rfl
  have u2 : (Tryd.prog).underlying 57 = some (.slice 118) := by kernel_rfl
  have v1 := fun w => run_underlying (w := w) u1
  have v2 := fun w => run_underlying (w := w) u2
  obtain ⟨i0, hi0, hi1⟩ : ∃ i0, (Tryd.prog).info? 118 = some i0 ∧ i0.size = 2 := ⟨_, rfl, rfl⟩
  have z1 : ∀ w, (Go.sizeOf 118).run Tryd.prog w = .ok 2 w := fun w => by simp [sizeOf, typeInfo, hi0, hi1]
  have hz1 : ¬ ((m : Int) = 0) := by omega
  go_enter Tryd.func75, Tryd.ntmps75
  cases base with
  | none =>
    go_wp2_with (at_builtin; refine Lib.wpList_append_run _ rfl _ _ _ _ rfl _ _ rfl rfl _ _ (hrun _) ?_)
    all_goals (go_ret; exact ⟨rfl, rfl⟩)
  | some a =>
    obtain ⟨ab, ao, asp⟩ := a
    go_wp2_with (at_builtin; refine Lib.wpList_append_run _ rfl _ _ _ _ rfl _ _ rfl rfl _ _ (hrun _) ?_)
    all_goals (go_ret; exact ⟨rfl, rfl⟩)
theorem ins_grow (g n c i gv m vc g2 c2 : Nat) (w w1 w2 w3 : World) (hi : i < n) (hnc : n ≤ c) (hm : 0 < m) (hroom : c < n + m) (hc63 : n + m ≤ 9223372036854775807) (hc2 : n + m ≤ c2)
    (hrz : ∀ ty, (Builtin.append_ #[58, 3] ty #[.slice (some ⟨g, 0, none⟩) i c, .int .i64 ((n : Int) + m - i)]).run Tryd.prog w = .ok (.slice (some ⟨g2, 0, none⟩) (n + m) c2) w1)
    (hcpA : ∀ ty dc, (Builtin.copy_ #[58, 57] ty #[.slice (some ⟨g2, i * 2, none⟩) (n + m - i) dc, .slice (some ⟨gv, 0, none⟩) m vc]).run Tryd.prog w1 = .ok (goInt (m : Nat)) w2)
    (hcpB : ∀ ty dc sc, (Builtin.copy_ #[58, 58] ty #[.slice (some ⟨g2, (i + m) * 2, none⟩) (n + m - (i + m)) dc, .slice (some ⟨g, i * 2, none⟩) (n - i) sc]).run Tryd.prog w2.drew = .ok (goInt (n - i : Nat)) w3) :
    Calls Tryd.prog 75 #[.slice (some ⟨g, 0, none⟩) n c, .int .i64 i, .slice (some ⟨gv, 0, none⟩) m vc] w fun e w' =>
      e = .returned (.slice (some ⟨g2, 0, none⟩) (n + m) c2) ∧ w' = w3 := by
  have hmixed := mixed
  have u1 : (Tryd.prog).underlying 58 = some (.slice 118) := by kernel_rfl
  have u2 : (Tryd.prog).underlying 57 = some (.slice 118) := by kernel_rfl
  have v1 := fun w => run_underlying (w := w) u1
  have v2 := fun w => run_underlying (w := w) u2
  obtain ⟨i0, hi0, hi1⟩ : ∃ i0, (Tryd.prog).info? 118 = some i0 ∧ i0.size = 2 := ⟨_, rfl, rfl⟩
  have z1 : ∀ w, (Go.sizeOf 118).run Tryd.prog w = .ok 2 w := fun w => by simp [sizeOf, typeInfo, hi0, hi1]
  have hz1 : ¬ ((m : Int) = 0) := by omega
  have hz2 : ¬ ((i : Int) = (n : Int)) := by omega
  have hz3 : (c : Int) < (n : Int) + (m : Int) := by omega
  have hw1 : IntKind.i64.wrap ((i : Int) + (m : Int)) = (i : Int) + (m : Int) := by rw [IntKind.wrap_i64]; omega
  have hb1 : (0 : Int) ≤ (i : Int) + (m : Int) := by omega
  have hin : i ≤ n := by omega
  have htn : ((i : Int) + (m : Int)).toNat = i + m := by omega
  have hb3 : (i : Int) ≤ (n : Int) := by omega
  have hGi : ¬ (c2 = i) := by omega
  have hGim : ¬ (c2 = i + m) := by omega
  have hci : ¬ (c = i) := by omega
  go_enter Tryd.func75, Tryd.ntmps75
  go_wp2_with (first
    | (at_builtin; refine Lib.wpList_append_run _ rfl _ _ _ _ rfl _ _ rfl rfl _ _ (hrz _) ?_)
    | (at_builtin; refine wpList_copy_runI _ rfl _ _ 58 57 rfl _ _ rfl rfl (hcpA _ _) ?_))
  go_region_law_o (refine step_copy_runI rfl _ _ 58 58 rfl _ _ (by simp [Act.eval, Act.put]) (by simp [Act.eval, Act.put]) (hcpB _ _ _) ?_)
  go_wp2
  go_ret
  exact ⟨rfl, rfl⟩
end Go.Proofs.YtnfcjdgmhbhecaaDoor
