/- strconv.FormatUint at base 10. -/
import Derived.Shelf.Strconv.AppendUint10
import Derived.Lib.AppendIntMem
import Derived.Test.YtnfcjdgmhbhecaaDoorLX7SH
import Derived.Test.YtnfcjdgmhbhecaaDoorLX7J5
namespace Go.Proofs.YtnfcjdgmhbhecaaDoor
open Go Go.Lift Go.RowKit Go.Lib Go.Sort Go.Shelf
set_option maxHeartbeats 6400000
set_option maxRecDepth 100000
set_option linter.unusedSimpArgs false
set_option linter.unusedVariables false

theorem ifu_big (u : Nat) (hu : 100 ≤ u) (hu64 : u < 18446744073709551616) (w : World) (htab : Lib.TabIs Tryd.prog w "internal/strconv.uint64pow10" .u64 Lib.pow10Tab) :
    Calls Tryd.prog 94 #[.int .u64 u, .int .i64 10] w fun e w' => e = .returned (.string ⟨(Lib.decDigits u).toArray⟩) ∧ ∃ k os, w' = Sort.grow (w.drewN k) os := by
  have hmixed := mixed
  have t5 := Tryd.underlying5; have a5 := Tryd.isAgg5; have z5 := Tryd.sizeOf5; have v5 := Tryd.zeroValue5
  have t37 := Tryd.underlying103; have u37 := run_underlying Tryd.underlying103; have a37 := Tryd.isAgg103; have z37 := Tryd.sizeOf103; have v37 := Tryd.zeroValue103
  have t53 := Tryd.underlying126; have a53 := Tryd.isAgg126; have z53 := Tryd.sizeOf126; have v53 := Tryd.zeroValue126
  have t3 := Tryd.underlying3; have a3 := Tryd.isAgg3; have z3 := Tryd.sizeOf3; have v3 := Tryd.zeroValue3
  have t4 := Tryd.underlying4; have a4 := Tryd.isAgg4; have z4 := Tryd.sizeOf4; have v4 := Tryd.zeroValue4
  have t9 := Tryd.underlying9; have a9 := Tryd.isAgg9; have z9 := Tryd.sizeOf9; have v9 := Tryd.zeroValue9
  have t171 := Tryd.underlying161; have a171 := Tryd.isAgg161; have z171 := Tryd.sizeOf161; have v171 := Tryd.zeroValue161
  have t0 := Tryd.underlying0; have a0 := Tryd.isAgg0; have z0 := Tryd.sizeOf0; have v0 := Tryd.zeroValue0
  have e284 : ∀ args w, (callFunc 107 args).run Tryd.prog w = .ok (.enter 107 args) w := enters_of Tryd.laysM171.f284 (by kernel_rfl) rfl
  have e285 : ∀ args w, (callFunc 108 args).run Tryd.prog w = .ok (.enter 108 args) w := enters_of Tryd.laysM171.f285 (by kernel_rfl) rfl
  have hu1 : 1 ≤ u := by omega
  have hnd20 : Lib.nDigits u ≤ 20 := by have := Lib.numDigits_eq u hu1 hu64; split at this <;> omega
  have hal : (Tryd.prog).arrayLen 161 = 24 := by simp [Program.arrayLen, t171]
  have hsl : ∀ W, (Instr.sliceAt 161 (.pointer (some ⟨w.heap.size, 0, none⟩)) none (some (.int .i64 (Lib.nDigits u : Int))) none).run Tryd.prog W = .ok (.slice (some ⟨w.heap.size, 0, none⟩) (Lib.nDigits u) 24) W := fun W => by
    rw [run_sliceAt_array_h W 161 ⟨w.heap.size, 0, none⟩ (by simp [Program.arrayLen, Program.elem, t171]) .i64 (Lib.nDigits u : Int) (by omega) (by rw [hal]; omega)]
    go_simp
  have hH0 := Lib.holds_zero0 w 161 (Lib.nDigits u) (by omega)
  have hfmt := Any.internal_strconv_formatBase10 { Tryd.laysM171 with } w.heap.size 0 24 u (Array.replicate (Lib.nDigits u) 0) (w.alloc (.cells Lib.zeros24 161)) hH0 (by rw [Array.size_replicate]; exact Lib.lt_pow_nDigits u) hu64 (by rw [Array.size_replicate]; omega)
  rw [Array.size_replicate] at hfmt
  have HH0 := Lib.hid hH0
  have iu : (100 : Int) ≤ (u : Int) := by omega
  clear hH0 hal
  go_enter Tryd.func94, Tryd.ntmps94
  go_wp2_with (first
    | (go_at_fn 107; refine (Any.internal_strconv_numDigits { Tryd.laysM171 with } u hu1 hu64 _ (Lib.tabIs_alloc htab _)).mono ?_; rintro e w' ⟨rfl, rfl⟩))
  go_at_fn 108
  refine hfmt.mono ?_
  rintro e w' ⟨rfl, k, v', dk, rfl, hF⟩
  have hcv : (convert 103 9 (.slice (some ⟨w.heap.size, 0, none⟩) (Lib.nDigits u) 24)).run Tryd.prog ((putRow (fun (b : UInt8) => Value.int .u8 (b.toNat : Int)) (w.alloc (.cells Lib.zeros24 161)) w.heap.size 0 dk).drewN k) = .ok (.string ⟨(Lib.decDigits u).toArray⟩) ((putRow (fun (b : UInt8) => Value.int .u8 (b.toNat : Int)) (w.alloc (.cells Lib.zeros24 161)) w.heap.size 0 dk).drewN k) := by
    have h := run_convert_bytes_back (P := Tryd.prog) ((putRow (fun (b : UInt8) => Value.int .u8 (b.toNat : Int)) (w.alloc (.cells Lib.zeros24 161)) w.heap.size 0 dk).drewN k) 103 9 5 ⟨w.heap.size, 0, none⟩ 24 (Lib.decDigits u) t37 t5 t9 (fun j hj => by
      rw [Lib.row_is_numeral hF j hj, Lib.add_plain, World.cell?_drewN]
      exact cell?_putRow (fun (b : UInt8) => Value.int .u8 (b.toNat : Int)) _ w.heap.size 0 _ dk HH0.out (by rw [hF.size, Array.size_replicate]) j (by rw [hF.size]; rw [Lib.decDigits_length] at hj; exact hj))
    rw [Lib.decDigits_length] at h
    exact h
  go_wp2
  go_ret
  obtain ⟨os, eo⟩ := Lib.fin_at w (.cells Lib.zeros24 161) dk k 0
  exact ⟨rfl, k, os, eo⟩
end Go.Proofs.YtnfcjdgmhbhecaaDoor
