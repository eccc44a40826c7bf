/- slices.Delete at vector.Vector: its walk. -/
import Derived.Test.YtnfcjdgmhbhecaaDoorLX7JA
import Derived.Test.YtnfcjdgmhbhecaaDoorLA3
namespace Go.Proofs.YtnfcjdgmhbhecaaDoor
open Go Go.Lift Go.Lib
set_option maxHeartbeats 4000000
set_option maxRecDepth 100000
set_option linter.unusedSimpArgs false
set_option linter.unusedVariables false

theorem del_walk (g n c i j : Nat) (A : Addr) (w w1 w2 : World) (hij : i < j) (hj : j ≤ n) (hnc : n ≤ c) (hc63 : c ≤ 9223372036854775807) (hA : (if c = j then (some ⟨g, 0, none⟩ : Option Addr) else some ⟨g, j * 2, none⟩) = some A)
    (hap : ∀ ty, (Builtin.append_ #[58, 58] ty #[.slice (some ⟨g, 0, none⟩) i c, .slice (some A) (n - j) (c - j)]).run Tryd.prog w.drew = .ok (.slice (some ⟨g, 0, none⟩) (i + (n - j)) c) w1)
    (hclr : ∀ ty, (Builtin.clear_ #[58] ty #[.slice (some ⟨g, (i + (n - j)) * 2, none⟩) (n - (i + (n - j))) (c - (i + (n - j)))]).run Tryd.prog w1 = .ok (.tuple #[]) w2) :
    Calls Tryd.prog 74 #[.slice (some ⟨g, 0, none⟩) n c, .int .i64 i, .int .i64 j] w fun e w' => e = .returned (.slice (some ⟨g, 0, none⟩) (i + (n - j)) c) ∧ w' = w2 := by
  have hmixed := mixed
  have u1 : (Tryd.prog).underlying 58 = some (.slice 118) := by kernel_rfl
  have v1 := fun w => run_underlying (w := w) u1
  obtain ⟨i0, hi0, hi1⟩ : ∃ i0, (Tryd.prog).info? 118 = some i0 ∧ i0.size = 2 := ⟨_, rfl, rfl⟩
  have z1 : ∀ w, (Go.sizeOf 118).run Tryd.prog w = .ok 2 w := fun w => by simp [sizeOf, typeInfo, hi0, hi1]
  have hz1 : ¬ ((i : Int) = (j : Int)) := by omega
  have hic : i ≤ c := by omega
  have hjc : j ≤ c := by omega
  have hci : ¬ (c = i + (n - j)) := by omega
  go_enter Tryd.func74, Tryd.ntmps74
  go_wp2_with fail
  go_region_law_o (refine step_append_runI rfl _ _ 58 58 rfl _ _ (by simp [Act.eval, Act.put]) (by simp [Act.eval, Act.put]) (hap _) ?_)
  go_wp2_with (at_builtin; refine wpList_clear_runI _ rfl _ 58 rfl _ rfl (hclr _) ?_)
  go_ret
  exact ⟨rfl, rfl⟩
end Go.Proofs.YtnfcjdgmhbhecaaDoor
