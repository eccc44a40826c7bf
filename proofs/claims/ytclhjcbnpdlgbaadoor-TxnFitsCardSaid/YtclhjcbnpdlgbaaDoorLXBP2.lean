/- The document's answer for pack. -/
import Derived.Test.YtclhjcbnpdlgbaaDoorLXBP1
namespace Go.Proofs.YtclhjcbnpdlgbaaDoor
open Go Go.Lift
set_option maxHeartbeats 4000000
set_option linter.unusedSimpArgs false
set_option linter.unusedVariables false
attribute [local irreducible] WK IL IP IG IW DW

theorem tmod_nat (a b : Nat) : Int.tmod (a : Int) (b : Int) = ((a % b : Nat) : Int) := by rw [Int.tmod_eq_emod_of_nonneg (by omega)]; simp
theorem tdiv_nat (a b : Nat) : Int.tdiv (a : Int) (b : Int) = ((a / b : Nat) : Int) := by rw [Int.tdiv_eq_ediv_of_nonneg (by omega)]; simp
theorem u8_of (n : Nat) (h : n < 256) : (UInt8.ofNat n).toNat = n := by rw [UInt8.toNat_ofNat']; omega
/-- one of a law's things: a kind, a number, a text, a limit -/
abbrev Th := Int × Nat × List UInt8 × Int
def thC (a : Th) : List IV := [.v (.int .i64 a.1), .v (.int .u64 (a.2.1 : Int)), .v (.string ⟨a.2.2.1.toArray⟩), .v (.int .i64 a.2.2.2)]
instance : Cells thC 4 := ⟨fun _ => rfl, fun _ => rfl, fun _ => rfl⟩
theorem thC_length (a : Th) : (thC a).length = 4 := rfl
def fewI (l : List Th) : Bool := l.all (fun a => decide (a.2.2.1.length ≤ 300)) && decide (l.length ≤ 60)
end Go.Proofs.YtclhjcbnpdlgbaaDoor
