/- Whole regions without calls: the evaluator, operation by operation. -/
import Derived.Test.YthekbbgpmiogdaaLZS
import Derived.Test.YthekbbgpmiogdaaLZT
namespace Go.Lift
open Go Go.RowKit

def ansOf : IV → Option (Option Bool)
  | .v (.bool b) => some (some b)
  | .v (.tuple a) => match a.toList with
    | [] => some none
    | _ => none
  | _ => none
theorem ansOf_some {x : IV} {b : Bool} (h : ansOf x = some (some b)) : x = .v (.bool b) := by
  unfold ansOf at h
  split at h
  · cases h; rfl
  · split at h <;> cases h
  · cases h
theorem ansOf_none {x : IV} (h : ansOf x = some none) : x = .v (.tuple #[]) := by
  unfold ansOf at h
  split at h
  · cases h
  · split at h
    · rename_i he
      rw [Array.toList_eq_nil_iff.1 he]
    · cases h
  · cases h
/-- a guard's answer: some true: do it; some false: pass it over; none: not known -/
def askG (ops : Array Oper) (σ : St) (o : Oper) : Option Bool :=
  match o.guard with
  | none => some true
  | some (j, want) => match (gval ops σ j).bind ansOf with
    | some (some b) => some (b == want)
    | some none => some false
    | none => none
def runOps (TT : TTab) (ops : Array Oper) : List Oper → St → (St → Prop) → Prop
  | [], σ, K => K σ
  | o :: l, σ, K => match askG ops σ o with
    | some true => stepOp TT o σ fun σ1 => runOps TT ops l σ1 K
    | some false => skipOp o σ fun σ1 => runOps TT ops l σ1 K
    | none => False
section
variable {P : Program} {TT : TTab} {fx : Fx}
theorem skipOp_mono {o : Oper} {σ : St} {K K' : St → Prop} (h : skipOp o σ K) (hk : ∀ σ, K σ → K' σ) : skipOp o σ K' := by
  unfold skipOp fin at *
  split at h
  · exact ⟨h.1, hk _ h.2⟩
  · exact hk _ h
theorem IL.runs {ops : Array Oper} (htt : TTok P TT) : ∀ {l : List Oper} {σ : St} {K : St → Prop}, runOps TT ops l σ K → IL P fx ops l K σ
  | [], σ, K, h => IL.nil h
  | o :: l, σ, K, h => by
    unfold runOps at h
    split at h
    · rename_i hg
      cases hgo : o.guard with
      | none => exact IL.cons hgo ((IP.of_step htt h).mono fun _ h' => IL.runs htt h')
      | some jw =>
        obtain ⟨j, want⟩ := jw
        unfold askG at hg
        rw [hgo] at hg
        simp only at hg
        split at hg
        · rename_i b hb
          obtain ⟨x, h1, h2⟩ := Option.bind_eq_some_iff.1 hb
          rw [ansOf_some h2] at h1
          exact IL.guard hgo h1 (fun _ => (IP.of_step htt h).mono fun _ h' => IL.runs htt h') (fun hne => absurd (by simpa using hg) hne)
        · cases hg
        · cases hg
    · rename_i hg
      unfold askG at hg
      split at hg
      · cases hg
      · rename_i j want hgo
        split at hg
        · rename_i b hb
          obtain ⟨x, h1, h2⟩ := Option.bind_eq_some_iff.1 hb
          rw [ansOf_some h2] at h1
          exact IL.guard hgo h1 (fun he => absurd hg (by simp [he])) (fun _ => skipOp_mono h fun _ h' => IL.runs htt h')
        · rename_i hb
          obtain ⟨x, h1, h2⟩ := Option.bind_eq_some_iff.1 hb
          rw [ansOf_none h2] at h1
          exact IL.guard_undef hgo h1 (skipOp_mono h fun _ h' => IL.runs htt h')
        · cases hg
    · exact h.elim
theorem IL.step (htt : TTok P TT) {ops : Array Oper} {o : Oper} {l : List Oper} {σ σ' : St} {K : St → Prop} (hg : o.guard = none) (h : ∀ K : St → Prop, K σ' → stepOp TT o σ K) (hr : IL P fx ops l K σ') : IL P fx ops (o :: l) K σ :=
  IL.cons hg (IP.of_step htt (h _ hr))
theorem IL.done {ops : Array Oper} {σ : St} {c : Code} {Q : Exit → St → Prop} (h : IW P fx c Q σ) : IL P fx ops [] (thenQ (IW P fx c Q) Q .normal) σ := IL.nil h
theorem IW.reg {id : Nat} {l : List Oper} {c : Code} {Q : Exit → St → Prop} {σ : St} (h : IL P fx l.toArray l (IW P fx c Q) σ) : IW P fx (.seq (.region id l.toArray false) c) Q σ :=
  IW.seq (IW.region h)
theorem IW.runs (htt : TTok P TT) {id : Nat} {l : List Oper} {Q : Exit → St → Prop} {σ σ' : St} (h : ∀ K : St → Prop, K σ' → runOps TT l.toArray l σ K) (hq : Q .normal σ') : IW P fx (.region id l.toArray false) Q σ :=
  IW.region (IL.runs htt (h _ hq))
/-- .. and what comes behind it -/
theorem IW.runs_seq (htt : TTok P TT) {id : Nat} {l : List Oper} {c : Code} {Q : Exit → St → Prop} {σ σ' : St} (h : ∀ K : St → Prop, K σ' → runOps TT l.toArray l σ K) (hq : IW P fx c Q σ') : IW P fx (.seq (.region id l.toArray false) c) Q σ :=
  IW.seq (IW.runs htt h hq)
end
end Go.Lift
