/- Code with what comes behind it: 'N' behind a normal end, 'Q' behind a jump. -/
import Derived.Test.YthekbbgpmiogdaaLZ3
namespace Go.Lift
open Go Go.RowKit

def exQ (id : Nat) (N : St → Prop) (Q : Exit → St → Prop) : Exit → St → Prop
  | .exit i, σ => if i = id then N σ else Q (.exit i) σ
  | e, σ => Q e σ

section
variable {P : Program} {TT : TTab} {fx : Fx} {N : St → Prop} {Q : Exit → St → Prop} {σ : St} {c c' : Code}

def WK (P : Program) (fx : Fx) (c : Code) (N : St → Prop) (Q : Exit → St → Prop) (σ : St) : Prop := IW P fx c (thenQ N Q) σ
theorem WK.top (h : WK P fx c (Q .normal) Q σ) : IW P fx c Q σ := IW.mono h fun e σ he => by cases e <;> exact he
theorem WK.seq {x y : Code} (h : WK P fx x (fun σ => WK P fx y N Q σ) Q σ) : WK P fx (.seq x y) N Q σ :=
  IW.seq (IW.mono h fun e σ he => by cases e <;> exact he)
theorem WK.reg {id : Nat} {l : List Oper} (h : IL P fx l.toArray l N σ) : WK P fx (.region id l.toArray false) N Q σ := IW.region h
theorem WK.skip (h : N σ) : WK P fx .skip N Q σ := IW.skip h
theorem WK.label {l : Nat} (h : N σ) : WK P fx (.label l) N Q σ := IW.label h
theorem WK.ret (h : Q .ret σ) : WK P fx .ret N Q σ := IW.ret h
theorem WK.exit {id : Nat} (h : Q (.exit id) σ) : WK P fx (.exit id) N Q σ := IW.exit h
theorem WK.goto {l : Nat} (h : Q (.goto l) σ) : WK P fx (.goto l) N Q σ := IW.goto h
theorem WK.cond {x : Operand} {c1 c2 : Code} {b : Bool} (hb : ev σ x = some (.v (.bool b))) (h1 : b = true → WK P fx c1 N Q σ) (h2 : b = false → WK P fx c2 N Q σ) : WK P fx (.cond x c1 c2) N Q σ := IW.cond hb h1 h2
theorem WK.block {id : Nat} (h : WK P fx c N (exQ id N Q) σ) : WK P fx (.block id c) N Q σ := by
  refine IW.block (IW.mono h fun e σ he => ?_)
  cases e <;> first
    | exact he
    | (simp only [thenQ, exQ] at he
       simp only [blockQ]
       split
       · rename_i e; rw [if_pos e] at he; exact he
       · rename_i e; rw [if_neg e] at he; exact he)
theorem WK.exit_here {id : Nat} {N' : St → Prop} (h : N σ) : WK P fx (.exit id) N' (exQ id N Q) σ := WK.exit (by simp only [exQ, if_true]; exact h)
theorem WK.exit_out {id id' : Nat} {N' : St → Prop} (hne : id ≠ id') (h : Q (.exit id) σ) : WK P fx (.exit id) N' (exQ id' N Q) σ := WK.exit (by simp only [exQ, if_neg hne]; exact h)
theorem WK.weak {σ' : St} (hw : Weak P fx σ σ') (h : WK P fx c N Q σ') : WK P fx c N Q σ := IW.weak hw h
/-- A LOOP: 'I n' holds at its head -/
theorem WK.loop (I : Nat → St → Prop) (n0 : Nat) (h0 : ∃ σ', Weak P fx σ σ' ∧ I n0 σ')
    (h : ∀ n σ, I n σ → WK P fx c (fun σ1 => ∃ σ' m, Weak P fx σ1 σ' ∧ m < n ∧ I m σ') Q σ) : WK P fx (.loop c) N Q σ :=
  IW.loop I n0 h0 fun n σ hI => IW.mono (h n σ hI) fun e σ he => by cases e <;> exact he
/-- A SCOPE WITH LABELS -/
theorem WK.scope (J : Nat → Nat → St → Prop) (h0 : WK P fx c N (jumpQ (fun l σ1 => ∃ σ' n, Weak P fx σ1 σ' ∧ J n l σ') Q) σ)
    (h : ∀ n l σ, J n l σ → ∃ rest, findLabel c l = some rest ∧ WK P fx rest N (jumpQ (fun l σ1 => ∃ σ' m, Weak P fx σ1 σ' ∧ m < n ∧ J m l σ') Q) σ) : WK P fx (.scope c) N Q σ := by
  refine IW.scope J (IW.mono h0 fun e σ he => by cases e <;> exact he) fun n l σ hJ => ?_
  obtain ⟨rest, h1, h2⟩ := h n l σ hJ
  exact ⟨rest, h1, IW.mono h2 fun e σ he => by cases e <;> exact he⟩
theorem WK.drawn {id : Nat} {l : List Oper} {σ0 : St} (hmix : P.follows .mixedOrders = true) (v : List IV) (B lo hi : List Nat) (Ls : Nat → List (Option Blk)) (T' : List (Nat × IV)) (hL0 : Ls 0 = σ0.L) (hchk : chkDraw l B lo hi = true) (hv : v.length = l.length)
    (H : AllOps (fun i o => ∀ c T T', lo.getD i 0 ≤ c → c ≤ hi.getD i 0 → (∀ t x, lookv l v σ0.T i t = some x → lk T t = some x) → putT o.dst v[i]? T = some T' →
      IG P fx l.toArray o (fun σ1 => σ1 = ⟨σ0.N, T', Ls (if B.contains i = true then c + 1 else c)⟩) ⟨σ0.N, T, Ls c⟩) 0 l)
    (hT : AllT (finv l v σ0.T) T') (hQ : N ⟨σ0.N, T', Ls B.length⟩) : WK P fx (.region id l.toArray true) N Q σ0 := IW.drawn1 hmix v B lo hi Ls T' hL0 hchk hv H hT hQ
theorem Weak.cut {T' : List (Nat × IV)} (h : AllT (lk σ.T) T') : Weak P fx σ ⟨σ.N, T', σ.L⟩ := Weak.forget rfl rfl fun _ _ hx => AllT.lk h hx
theorem Weak.cut' {σ' : St} (hN : σ'.N = σ.N) (hL : σ'.L = σ.L) (h : AllT (lk σ.T) σ'.T) : Weak P fx σ σ' := Weak.forget hN hL fun _ _ hx => AllT.lk h hx
theorem Weak.to {I : St → Prop} {σ' : St} (hI : I σ') (hN : σ'.N = σ.N) (hL : σ'.L = σ.L) (h : AllT (lk σ.T) σ'.T) : ∃ σ', Weak P fx σ σ' ∧ I σ' := ⟨σ', Weak.cut' hN hL h, hI⟩
theorem Weak.to2 {I : Nat → St → Prop} {σ' : St} {m n : Nat} (hI : I m σ') (hm : m < n) (hN : σ'.N = σ.N) (hL : σ'.L = σ.L) (h : AllT (lk σ.T) σ'.T) : ∃ σ' m, Weak P fx σ σ' ∧ m < n ∧ I m σ' := ⟨σ', m, Weak.cut' hN hL h, hm, hI⟩
theorem WK.drawnB {id : Nat} {l : List Oper} {σ0 : St} {N' : Nat} {L' : List (Option Blk)} (hmix : P.follows .mixedOrders = true) (v : List IV) (B lo hi : List Nat) (Lss : List (List (Option Blk))) (T' : List (Nat × IV)) (hL0 : Lss.getD 0 [] = σ0.L) (hchk : chkDraw l B lo hi = true) (hv : v.length = l.length)
    (H : AllOps (fun i o => ∀ c T T', lo.getD i 0 ≤ c → c ≤ hi.getD i 0 → (∀ t x, lookv l v σ0.T i t = some x → lk T t = some x) → putT o.dst v[i]? T = some T' →
      IG P fx l.toArray o (fun σ1 => σ1 = ⟨σ0.N, T', Lss.getD (if B.contains i = true then c + 1 else c) []⟩) ⟨σ0.N, T, Lss.getD c []⟩) 0 l)
    (hT : AllT (finv l v σ0.T) T') (hN' : σ0.N = N') (hL' : Lss.getD B.length [] = L') (hQ : N ⟨N', T', L'⟩) : WK P fx (.region id l.toArray true) N Q σ0 := by
  subst hN'; subst hL'
  exact WK.drawn hmix v B lo hi (fun c => Lss.getD c []) T' hL0 hchk hv H hT hQ
/-- its guard lets it be done -/
def Gok (ops : Array Oper) (σ : St) (o : Oper) : Prop := o.guard = none ∨ ∃ j b, o.guard = some (j, b) ∧ gval ops σ j = some (.v (.bool b))
/-- its guard passes it over -/
def Gno (ops : Array Oper) (σ : St) (o : Oper) : Prop := ∃ j b, o.guard = some (j, b) ∧ (gval ops σ j = some (.v (.bool (!b))) ∨ gval ops σ j = some (.v (.tuple #[])))
theorem IG.ok {ops : Array Oper} {o : Oper} {K : St → Prop} (hg : Gok ops σ o) (h : IP P fx o K σ) : IG P fx ops o K σ := by
  rcases hg with hg | ⟨j, b, hg, hb⟩
  · exact IG.plain hg h
  · exact IG.guard hg hb (fun _ => h) fun hne => absurd rfl hne
theorem IG.no {ops : Array Oper} {o : Oper} {K : St → Prop} (hg : Gno ops σ o) (h : skipOp o σ K) : IG P fx ops o K σ := by
  obtain ⟨j, b, hg, hb | hb⟩ := hg
  · exact IG.guard hg hb (fun e => absurd e (by cases b <;> simp)) fun _ => h
  · exact IG.undef hg hb h
theorem IL.ok {ops : Array Oper} {o : Oper} {l : List Oper} {K : St → Prop} (hg : Gok ops σ o) (h : IP P fx o (IL P fx ops l K) σ) : IL P fx ops (o :: l) K σ := by
  rcases hg with hg | ⟨j, b, hg, hb⟩
  · exact IL.cons hg h
  · exact IL.guard hg hb (fun _ => h) fun hne => absurd rfl hne
theorem IL.stepg (htt : TTok P TT) {ops : Array Oper} {o : Oper} {l : List Oper} {σ' : St} {K : St → Prop} (hg : Gok ops σ o) (h : ∀ K : St → Prop, K σ' → stepOp TT o σ K) (hr : IL P fx ops l K σ') : IL P fx ops (o :: l) K σ :=
  IL.ok hg (IP.of_step htt (h _ hr))
theorem IL.no {ops : Array Oper} {o : Oper} {l : List Oper} {σ' : St} {K : St → Prop} (hg : Gno ops σ o) (h : ∀ K : St → Prop, K σ' → skipOp o σ K) (hr : IL P fx ops l K σ') : IL P fx ops (o :: l) K σ := by
  obtain ⟨j, b, hg, hb | hb⟩ := hg
  · exact IL.guard hg hb (fun e => absurd e (by cases b <;> simp)) fun _ => h _ hr
  · exact IL.guard_undef hg hb (h _ hr)
/-- a drawn region in which no block turns -/
theorem WK.drawn0 {id : Nat} {l : List Oper} {N' : Nat} {L' : List (Option Blk)} (hmix : P.follows .mixedOrders = true) (v : List IV) (T' : List (Nat × IV)) (hchk : chkDraw l [] [] [] = true) (hv : v.length = l.length)
    (H : AllOps (fun i o => ∀ T T', (∀ t x, lookv l v σ.T i t = some x → lk T t = some x) → putT o.dst v[i]? T = some T' → IG P fx l.toArray o (fun σ1 => σ1 = ⟨σ.N, T', σ.L⟩) ⟨σ.N, T, σ.L⟩) 0 l)
    (hT : AllT (finv l v σ.T) T') (hN' : σ.N = N') (hL' : σ.L = L') (hQ : N ⟨N', T', L'⟩) : WK P fx (.region id l.toArray true) N Q σ := by
  subst hN'; subst hL'
  have conv : ∀ (i : Nat) (l' : List Oper), AllOps (fun i o => ∀ T T', (∀ t x, lookv l v σ.T i t = some x → lk T t = some x) → putT o.dst v[i]? T = some T' → IG P fx l.toArray o (fun σ1 => σ1 = ⟨σ.N, T', σ.L⟩) ⟨σ.N, T, σ.L⟩) i l' →
      AllOps (fun i o => ∀ c T T', ([] : List Nat).getD i 0 ≤ c → c ≤ ([] : List Nat).getD i 0 → (∀ t x, lookv l v σ.T i t = some x → lk T t = some x) → putT o.dst v[i]? T = some T' →
        IG P fx l.toArray o (fun σ1 => σ1 = ⟨σ.N, T', (fun _ => σ.L) (if ([] : List Nat).contains i = true then c + 1 else c)⟩) ⟨σ.N, T, (fun _ => σ.L) c⟩) i l' := by
    intro i l'
    induction l' generalizing i with
    | nil => intro _; trivial
    | cons o l' ih => exact fun ⟨h1, h2⟩ => ⟨fun c T T' _ _ hk hp => h1 T T' hk hp, ih _ h2⟩
  exact WK.drawn hmix v [] [] [] (fun _ => σ.L) T' rfl hchk hv (conv 0 l H) hT hQ
theorem IL.call (htt : TTok P TT) {ops : Array Oper} {o : Oper} {l : List Oper} {c : Call} {fo : Operand} {f : FuncId} {caps xs A A' : List IV} {r : IV} {σ σ' : St} {K : St → Prop} (ms : List Md) {bs ks : List Nat} (keep : Bool) {sets : List (Nat × Blk)} {pushes : List Blk}
    (hg : Gok ops σ o) (ho : o.op = .call c) (hc : c.callee = .value fo) (hfo : ev σ fo = some (.fn (.func f) caps)) (hen : Ent P f) (hx : evs σ c.args.toList = some xs) (hA : exA σ.L TT ms (xs ++ caps) = some (A, bs, ks)) (hnd : ks.Nodup) (hdb : ∀ k ∈ ks, k ∉ bs) (hS : SCall P f A r A')
    (hok : okI r = true) (hkr : (!keep || noTr r) = true) (hi : impA keep σ.L (σ.L.length + (imp σ.L.length r).2.length) ms (xs ++ caps) A' = some (sets, pushes)) (hsub : ∀ s ∈ sets, s.1 ∈ ks)
    (hK : ∀ K : St → Prop, K σ' → fin o σ (imp σ.L.length r).1 (setL (clearL (if keep = true then σ.L else frzL σ.L bs) ks) sets ++ ((imp σ.L.length r).2 ++ pushes).map some) K) (hr : IL P fx ops l K σ') : IL P fx ops (o :: l) K σ :=
  IL.ok hg (IP.call htt ms keep ho hc hfo hen hx hA hnd hdb hS hok hkr hi hsub (hK _ hr))
end
end Go.Lift
