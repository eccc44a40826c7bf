import Derived.Below
import Derived.Sort.Grow
import Derived.Lib.LaidTab
import Derived.Deep.Draws
import Derived.Laws.ComplexArith
import Derived.Test.YtgomhljgjmjgfaaDoorLA2
set_option linter.unusedVariables false
set_option linter.unusedSimpArgs false
/- The kit's own contracts, aL contracts of this library: plain values in, plain values out. -/
namespace Go.Lift
open Go Go.RowKit

theorem fr_of_below {w w' : World} (h : Below w.heap.size w w') : Fr w w' [] :=
  ⟨h.os, h.tape, h.output, h.size, fun b hb _ => h.block b hb, fun b arr T fr hh => ⟨arr, by rw [h.block b (lt_of_heap hh)]; exact hh, rfl, fun _ _ => rfl⟩⟩
theorem below_grow (w : World) (k : Nat) (os : Array Obj) : Below w.heap.size w (Sort.grow (w.drewN k) os) :=
  ⟨rfl, rfl, rfl, by simp [Sort.grow, World.drewN], fun b hb => by
    show (w.heap ++ os)[b]? = _
    rw [Array.getElem?_append_left hb]⟩
def BRv (P : Program) (r : IV) (v : Value) : Prop := ∀ (R : Nat → Prop) (w : World), BR P R w r v []
theorem BRv.v {P : Program} (x : Value) : BRv P (.v x) x := fun R w => by unfold BR; exact ⟨rfl, rfl⟩
theorem BRl_vs {P : Program} {R : Nat → Prop} {w : World} : ∀ (xs : List Value), BRl P R w (xs.map .v) xs []
  | [] => by simp [BRl]
  | x :: xs => by
    simp only [List.map_cons, BRl]
    exact ⟨x, xs, [], [], rfl, BRv.v x R w, BRl_vs xs, rfl⟩
theorem BRv.tup {P : Program} (xs : List Value) : BRv P (.tup (xs.map .v)) (.tuple xs.toArray) := fun R w => by
  unfold BR
  exact ⟨_, rfl, by simpa using BRl_vs xs⟩
theorem BRl_vs_inv {P : Program} {R : Nat → Prop} {w : World} : ∀ {xs : List Value} {vals : List Value} {os : List OwnR}, BRl P R w (xs.map .v) vals os → vals = xs ∧ os = []
  | [], vals, os, h => by simp only [List.map_nil, BRl] at h; exact h
  | x :: xs, vals, os, h => by
    simp only [List.map_cons, BRl] at h
    obtain ⟨y, ys, o1, o2, rfl, h1, h2, rfl⟩ := h
    unfold BR at h1
    obtain ⟨rfl, rfl⟩ := h1
    obtain ⟨rfl, rfl⟩ := BRl_vs_inv h2
    exact ⟨rfl, rfl⟩
theorem SCallG.of_kit {G : List (Nat × List IV)} {P : Program} {f : FuncId} {xs : List Value} {r : IV} {v : Value} (hr : BRv P r v)
    (h : ∀ (w : World) (R : Nat → Prop), GOk G R w → Calls P f xs.toArray w fun e w' => e = .returned v ∧ Fr w w' []) : SCallG G P f (xs.map .v) r (xs.map .v) := by
  intro w R vals os hB hd hlt hno hG
  obtain ⟨rfl, rfl⟩ := BRl_vs_inv hB
  refine (h w R hG).mono ?_
  rintro e w' ⟨rfl, hf⟩
  exact ⟨v, R, [], [], rfl, hr R w', BRl_vs _, by simp [Disj], fun b hb => hb, fun b hb => ⟨Nat.lt_of_lt_of_le (hlt b hb) hf.hsize, .inl hb⟩, fun b o _ ⟨z, hz, _⟩ => by simp at hz, fun b o ⟨z, hz, _⟩ => by simp at hz, hf⟩
theorem SCall.of_kit {P : Program} {f : FuncId} {xs : List Value} {r : IV} {v : Value} (hr : BRv P r v)
    (h : ∀ w : World, Calls P f xs.toArray w fun e w' => e = .returned v ∧ Fr w w' []) : SCall P f (xs.map .v) r (xs.map .v) := by
  intro w R vals os hB hd hlt hno
  obtain ⟨rfl, rfl⟩ := BRl_vs_inv hB
  refine (h w).mono ?_
  rintro e w' ⟨rfl, hf⟩
  exact ⟨v, R, [], [], rfl, hr R w', BRl_vs _, by simp [Disj], fun b hb => hb, fun b hb => ⟨Nat.lt_of_lt_of_le (hlt b hb) hf.hsize, .inl hb⟩, fun b o _ ⟨z, hz, _⟩ => by simp at hz, fun b o ⟨z, hz, _⟩ => by simp at hz, hf⟩
theorem GOk.tab {G : List (Nat × List IV)} {R : Nat → Prop} {P : Program} {w : World} {name : String} {g : Nat} {k : IntKind} {zs : List Int} (hG : GOk G R w) (hg : P.globalNamed name = some g)
    (hm : (g, zs.map fun z => IV.v (.int k z)) ∈ G) : Lib.TabIs P w name k zs := by
  obtain ⟨_, h2, arr, t, fr, h3, h4⟩ := hG _ hm
  simp only at h2 h3 h4
  unfold Lib.TabIs World.var?
  rw [hg]
  simp only [Option.bind_some, h3, Option.some.injEq]
  refine Array.ext (by simpa using h4) fun i h5 h6 => ?_
  have hi : i < zs.length := by simpa using h6
  obtain ⟨y, e1, e2, _⟩ := TRm.get h2 i (.v (.int k zs[i])) (by rw [List.getElem?_map, List.getElem?_eq_getElem hi]; rfl)
  unfold TR at e2
  subst e2
  simp only [World.cell?, h3, Nat.zero_add] at e1
  rw [Array.getElem?_eq_getElem h5] at e1
  simpa using e1
end Go.Lift
/- Function values: what is handed over to a function that is handed a function, laid flat: the variables that it captured stand in the list by themselves. -/
namespace Go.Lift
open Go Go.RowKit

def pk {α : Type} (mk : FuncId → List α → α) : List (Option (FuncId × Nat)) → List α → List α
  | [], xs => xs
  | none :: _, [] => []
  | none :: fs, x :: xs => x :: pk mk fs xs
  | some (g, m) :: fs, xs => mk g (xs.take m) :: pk mk fs (xs.drop m)
def packIV (fs : List (Option (FuncId × Nat))) (xs : List IV) : List IV := pk (fun g cs => .fn (.func g) cs) fs xs
def packV (fs : List (Option (FuncId × Nat))) (xs : List Value) : List Value := pk (fun g cs => .func (.func g) #[] cs.toArray) fs xs
def unpk : List (Option (FuncId × Nat)) → List IV → List IV
  | none :: fs, x :: xs => x :: unpk fs xs
  | some _ :: fs, .fn _ cs :: xs => cs ++ unpk fs xs
  | _, xs => xs
section
variable {G : List (Nat × List IV)} {P : Program} {TT : TTab} {fx : Fx} {o : Oper} {r : List Oper} {K : St → Prop} {i N : Nat}
theorem SCallG.toS {f : FuncId} {A A' : List IV} {r : IV} (h : SCallG [] P f A r A') : SCall P f A r A' := fun w R vals os a b c d => h w R vals os a b c d fun x hx => by simp at hx
section
variable {ops : List Oper} {X B lo hi : List Nat} {T T' : List (Nat × IV)} {L L' : List (Option Blk)} {Ls : List (List (Option Blk))}
end
end
attribute [go_sem] packIV packV pk unpk List.take_succ_cons List.drop_succ_cons List.take_zero List.drop_zero
end Go.Lift
/- Short forms of the rules: what a rule asks for besides its next step is done by itself. -/
namespace Go.Lift
open Go Go.RowKit

theorem cG {p : Prop} (h : p := by first | exact .inl rfl | (refine Gok.mk2 (b := ?_) rfl ?_ ?_; rotate_left 1; (focus rfl); (focus (with_reducible rfl)))) : p := h
theorem cW {p : Prop} (h : p := by first | exact wrap_i64 (by omega) (by omega) | exact wrap_u64 (by omega) (by omega) | exact wrap_u32 (by omega) (by omega) | exact wrap_u16 (by omega) (by omega) | exact wrap_u8 (by omega) (by omega)) : p := h
theorem cO {p : Prop} (h : p := by first | omega | assumption | decide | simp) : p := h
theorem cK {p q : Prop} (hK : q) (h : p := by first | exact hK | (and_intros <;> first | exact hK | omega | assumption | rfl | decide)) : p := h
theorem cA {p : Prop} (h : p := by first | (simp only [go_sem, reduceIte] <;> (try and_intros) <;> first | rfl | omega | grind)) : p := h
theorem hsA : (∀ a b : Bool, ((a && b) = true) = (a = true ∧ b = true)) ∧ (∀ a b : Bool, ((a && b) = false) = (a = false ∨ b = false)) ∧ (∀ a b : Bool, ((a || b) = true) = (a = true ∨ b = true)) ∧ (∀ a b : Bool, ((a || b) = false) = (a = false ∧ b = false)) ∧
    (∀ a : Bool, ((!a) = true) = (a = false)) ∧ (∀ a : Bool, ((!a) = false) = (a = true)) := by
  refine ⟨?_, ?_, ?_, ?_, ?_, ?_⟩ <;> simp
theorem hsD {p : Prop} [Decidable p] : ((decide p = true) = p) ∧ ((decide p = false) = ¬ p) ∧ ((¬ ¬ p) ↔ p) := by simp
theorem hsE {α : Type} [BEq α] [LawfulBEq α] {a b : α} : ((a == b) = true ↔ a = b) ∧ ((a == b) = false ↔ ¬ a = b) ∧ ((a != b) = true ↔ ¬ a = b) ∧ ((a != b) = false ↔ a = b) := by simp
section
variable {P : Program} {TT : TTab} {fx : Fx} {G : List (Nat × List IV)}
section
variable {ops : Array Oper} {o : Oper} {l : List Oper} {σ σ' : St} {K : St → Prop}
theorem IL.sg (htt : TTok P TT) (hr : IL P fx ops l K σ') (hg : Gok ops σ o := by exact cG) (h : ∀ K : St → Prop, K σ' → stepOp TT o σ K := by intro K hK; simp only [go_sem, reduceIte]; first | exact hK | (and_intros <;> first | exact hK | omega | assumption | rfl | decide)) : IL P fx ops (o :: l) K σ := IL.stepg htt hg h hr
theorem IL.nn (hr : IL P fx ops l K σ') (hg : Gno ops σ o := by first | (refine Gno.mkT (b := ?_) rfl ?_ ?_; rotate_left 1; (focus rfl); (focus (with_reducible rfl))) | (refine Gno.mkF (b := ?_) rfl ?_ ?_; rotate_left 1; (focus rfl); (focus (with_reducible rfl))) | exact Gno.mkU rfl rfl)
    (h : ∀ K : St → Prop, K σ' → skipOp o σ K := by intro K hK; simp only [go_sem, reduceIte]; exact hK) : IL P fx ops (o :: l) K σ := IL.no hg h hr
theorem IL.cS (htt : TTok P TT) {f : FuncId} (hen : Ent P f) (ms : List Md) (keep : Bool) {xs A A' : List IV} {rr : IV} {bs ks : List Nat} {sets : List (Nat × Blk)} {pushes : List Blk} (hr : IL P fx ops l K σ')
    (hg : Gok ops σ o := by exact cG) (hc : isCall σ o = some (f, xs) := by rfl) (hA : exA σ.L TT ms xs = some (A, bs, ks) := by first | rfl | (simp only [go_sem, reduceIte] <;> rfl)) (hS : SCall P f A rr A') (hnd : nodupB ks bs = true := by rfl) (hok : okI rr = true := by rfl) (hkr : (!keep || noTr rr) = true := by first | rfl | (simp only [go_sem]; done))
    (hi : impA keep σ.L (σ.L.length + (imp σ.L.length rr).2.length) ms xs A' = some (sets, pushes) := by first | rfl | (simp only [go_sem, reduceIte] <;> rfl)) (hsub : ∀ s ∈ sets, s.1 ∈ ks := by (simp; done))
    (hK : ∀ K : St → Prop, K σ' → fin o σ (imp σ.L.length rr).1 (setL (clearL (if keep = true then σ.L else frzL σ.L bs) ks) sets ++ ((imp σ.L.length rr).2 ++ pushes).map some) K := by intro K hK; simp only [go_sem, reduceIte]; first | exact hK | (and_intros <;> first | exact hK | omega | assumption | rfl | decide)) : IL P fx ops (o :: l) K σ :=
  IL.callS htt hen ms keep hg hc hA hS hnd hok hkr hi hsub hK hr
theorem IL.cSG (hgf : GFx G fx) (htt : TTok P TT) {f : FuncId} (hen : Ent P f) (ms : List Md) (keep : Bool) {xs A A' : List IV} {rr : IV} {bs ks : List Nat} {sets : List (Nat × Blk)} {pushes : List Blk} (hr : IL P fx ops l K σ')
    (hg : Gok ops σ o := by exact cG) (hc : isCall σ o = some (f, xs) := by rfl) (hA : exA σ.L TT ms xs = some (A, bs, ks) := by first | rfl | (simp only [go_sem, reduceIte] <;> rfl)) (hS : SCallG G P f A rr A') (hnd : nodupB ks bs = true := by rfl) (hok : okI rr = true := by rfl) (hkr : (!keep || noTr rr) = true := by first | rfl | (simp only [go_sem]; done))
    (hi : impA keep σ.L (σ.L.length + (imp σ.L.length rr).2.length) ms xs A' = some (sets, pushes) := by first | rfl | (simp only [go_sem, reduceIte] <;> rfl)) (hsub : ∀ s ∈ sets, s.1 ∈ ks := by (simp; done))
    (hK : ∀ K : St → Prop, K σ' → fin o σ (imp σ.L.length rr).1 (setL (clearL (if keep = true then σ.L else frzL σ.L bs) ks) sets ++ ((imp σ.L.length rr).2 ++ pushes).map some) K := by intro K hK; simp only [go_sem, reduceIte]; first | exact hK | (and_intros <;> first | exact hK | omega | assumption | rfl | decide)) : IL P fx ops (o :: l) K σ :=
  IL.callSG hgf htt hen ms keep hg hc hA hS hnd hok hkr hi hsub hK hr
end
section
variable {opa : Array Oper} {o : Oper} {r : List Oper} {N : Nat} {T : List (Nat × IV)} {L : List (Option Blk)} {K : St → Prop} {b : Bool} {d : Nat}
theorem IL.ag (h1 : b = true → IL P fx opa (o :: r) K ⟨N, (d, .v (.bool true)) :: T, L⟩) (h2 : b = false → IL P fx opa (o :: r) K ⟨N, (d, .v (.bool false)) :: T, L⟩) (hd : gslot opa o = some d := by rfl) (h : lk T d = some (.v (.bool b)) := by rfl) : IL P fx opa (o :: r) K ⟨N, T, L⟩ := IL.askg hd h h1 h2
theorem IL.ap (h1 : b = true → IL P fx opa (o :: r) K ⟨N, (d, .v (.bool true)) :: T, L⟩) (h2 : b = false → IL P fx opa (o :: r) K ⟨N, (d, .v (.bool false)) :: T, L⟩) (hd : pslot o = some d := by rfl) (h : lk T d = some (.v (.bool b)) := by rfl) : IL P fx opa (o :: r) K ⟨N, T, L⟩ := IL.askp hd h h1 h2
end
section
variable {ops : List Oper} {X B lo hi : List Nat} {i N : Nat} {o : Oper} {r : List Oper} {T T' : List (Nat × IV)} {Ls : List (List (Option Blk))} {K : St → Prop} {L L' : List (Option Blk)}
theorem DW.re (htt : TTok P TT) (hrest : DW P fx ops X B lo hi (i + 1) r N T' Ls K) (hb : B.contains i = false := by rfl) (hr : isRd o.op = true := by rfl) (hlh : lo.getD i 0 = hi.getD i 0 := by decide) (hL : Ls[Ls.length - 1 - lo.getD i 0]? = some L := by rfl) (hg : Gok ops.toArray ⟨N, T, L⟩ o := by exact cG)
    (h : ∀ K : St → Prop, K ⟨N, T', L⟩ → stepOp TT o ⟨N, T, L⟩ K := by intro K hK; simp only [go_sem, reduceIte]; first | exact hK | (and_intros <;> first | exact hK | omega | assumption | rfl | decide)) (hp : putOk o.dst T T' := by first | exact ⟨_, rfl⟩ | rfl) : DW P fx ops X B lo hi i (o :: r) N T Ls K := DW.rd htt hb hr hlh hL hg h hp hrest
theorem DW.rm (htt : TTok P TT) (hrest : DW P fx ops X B lo hi (i + 1) r N T' Ls K) (hb : B.contains i = false := by rfl) (hr : isRd o.op = true := by rfl) (hL : (Ls[Ls.length - 1 - lo.getD i 0]?).map (maskL X 0) = some L := by rfl) (hg : Gok ops.toArray ⟨N, T, L⟩ o := by exact cG)
    (h : ∀ K : St → Prop, K ⟨N, T', L⟩ → stepOp TT o ⟨N, T, L⟩ K := by intro K hK; simp only [go_sem, reduceIte]; first | exact hK | (and_intros <;> first | exact hK | omega | assumption | rfl | decide)) (hp : putOk o.dst T T' := by first | exact ⟨_, rfl⟩ | rfl) : DW P fx ops X B lo hi i (o :: r) N T Ls K := DW.rdm htt hb hr hL hg h hp hrest
theorem DW.bk (htt : TTok P TT) (hrest : DW P fx ops X B lo hi (i + 1) r N T' (L' :: L :: Ls) K) (hb : B.contains i = true := by rfl) (hg : Gok ops.toArray ⟨N, T, L⟩ o := by exact cG)
    (h : ∀ K : St → Prop, K ⟨N, T', L'⟩ → stepOp TT o ⟨N, T, L⟩ K := by intro K hK; simp only [go_sem, reduceIte]; first | exact hK | (and_intros <;> first | exact hK | omega | assumption | rfl | decide)) (hp : putOk o.dst T T' := by first | exact ⟨_, rfl⟩ | rfl)
    (hs : strad lo hi ops.length Ls.length = false ∨ LEX X L L' := by first | exact .inl rfl | exact .inr (LEX.refl _ _) | exact .inr (LE.app _ _).lex | exact .inr (LEX.of (by simp only [go_sem, List.contains_cons, List.contains_nil, Nat.reduceBEq, Bool.or_false, Bool.false_or, Nat.reduceAdd, true_or, false_or, true_and]; first | done | trivial | (and_intros <;> first | exact ⟨_, rfl⟩ | trivial)))) : DW P fx ops X B lo hi i (o :: r) N T (L :: Ls) K := DW.bl htt hb hg h hp hs hrest
theorem DW.cS (htt : TTok P TT) {f : FuncId} (hen : Ent P f) (ms : List Md) (keep : Bool) {xs A A' : List IV} {rr : IV} {bs ks : List Nat} {sets : List (Nat × Blk)} {pushes : List Blk} (hrest : DW P fx ops X B lo hi (i + 1) r N T' (L' :: L :: Ls) K)
    (hb : B.contains i = true := by rfl) (hg : Gok ops.toArray ⟨N, T, L⟩ o := by exact cG) (hc : isCall ⟨N, T, L⟩ o = some (f, xs) := by rfl) (hA : exA L TT ms xs = some (A, bs, ks) := by first | rfl | (simp only [go_sem, reduceIte] <;> rfl)) (hS : SCall P f A rr A') (hnd : nodupB ks bs = true := by rfl) (hok : okI rr = true := by rfl) (hkr : (!keep || noTr rr) = true := by first | rfl | (simp only [go_sem]; done))
    (hi' : impA keep L (L.length + (imp L.length rr).2.length) ms xs A' = some (sets, pushes) := by first | rfl | (simp only [go_sem, reduceIte] <;> rfl)) (hsub : ∀ s ∈ sets, s.1 ∈ ks := by (simp; done))
    (hK : ∀ K : St → Prop, K ⟨N, T', L'⟩ → fin o ⟨N, T, L⟩ (imp L.length rr).1 (setL (clearL (if keep = true then L else frzL L bs) ks) sets ++ ((imp L.length rr).2 ++ pushes).map some) K := by intro K hK; simp only [go_sem, reduceIte]; first | exact hK | (and_intros <;> first | exact hK | omega | assumption | rfl | decide))
    (hp : putOk o.dst T T' := by first | exact ⟨_, rfl⟩ | rfl)
    (hs : strad lo hi ops.length Ls.length = false ∨ LEX X L L' := by first | exact .inl rfl | exact .inr (LEX.refl _ _) | exact .inr (LE.app _ _).lex | exact .inr (LEX.of (by simp only [go_sem, List.contains_cons, List.contains_nil, Nat.reduceBEq, Bool.or_false, Bool.false_or, Nat.reduceAdd, true_or, false_or, true_and]; first | done | trivial | (and_intros <;> first | exact ⟨_, rfl⟩ | trivial)))) : DW P fx ops X B lo hi i (o :: r) N T (L :: Ls) K :=
  DW.callS htt hen ms keep hb hg hc hA hS hnd hok hkr hi' hsub hK hp hs hrest
theorem DW.cSG (hgf : GFx G fx) (htt : TTok P TT) {f : FuncId} (hen : Ent P f) (ms : List Md) (keep : Bool) {xs A A' : List IV} {rr : IV} {bs ks : List Nat} {sets : List (Nat × Blk)} {pushes : List Blk} (hrest : DW P fx ops X B lo hi (i + 1) r N T' (L' :: L :: Ls) K)
    (hb : B.contains i = true := by rfl) (hg : Gok ops.toArray ⟨N, T, L⟩ o := by exact cG) (hc : isCall ⟨N, T, L⟩ o = some (f, xs) := by rfl) (hA : exA L TT ms xs = some (A, bs, ks) := by first | rfl | (simp only [go_sem, reduceIte] <;> rfl)) (hS : SCallG G P f A rr A') (hnd : nodupB ks bs = true := by rfl) (hok : okI rr = true := by rfl) (hkr : (!keep || noTr rr) = true := by first | rfl | (simp only [go_sem]; done))
    (hi' : impA keep L (L.length + (imp L.length rr).2.length) ms xs A' = some (sets, pushes) := by first | rfl | (simp only [go_sem, reduceIte] <;> rfl)) (hsub : ∀ s ∈ sets, s.1 ∈ ks := by (simp; done))
    (hK : ∀ K : St → Prop, K ⟨N, T', L'⟩ → fin o ⟨N, T, L⟩ (imp L.length rr).1 (setL (clearL (if keep = true then L else frzL L bs) ks) sets ++ ((imp L.length rr).2 ++ pushes).map some) K := by intro K hK; simp only [go_sem, reduceIte]; first | exact hK | (and_intros <;> first | exact hK | omega | assumption | rfl | decide))
    (hp : putOk o.dst T T' := by first | exact ⟨_, rfl⟩ | rfl)
    (hs : strad lo hi ops.length Ls.length = false ∨ LEX X L L' := by first | exact .inl rfl | exact .inr (LEX.refl _ _) | exact .inr (LE.app _ _).lex | exact .inr (LEX.of (by simp only [go_sem, List.contains_cons, List.contains_nil, Nat.reduceBEq, Bool.or_false, Bool.false_or, Nat.reduceAdd, true_or, false_or, true_and]; first | done | trivial | (and_intros <;> first | exact ⟨_, rfl⟩ | trivial)))) : DW P fx ops X B lo hi i (o :: r) N T (L :: Ls) K :=
  DW.callSG hgf htt hen ms keep hb hg hc hA hS hnd hok hkr hi' hsub hK hp hs hrest
end
section
variable {c : Operand} {x y : Code} {N : St → Prop} {Q : Exit → St → Prop} {σ : St} {b : Bool}
theorem Fin.o {fn : Func} {kp : Nat → Bool} {gs : List Bool} {A A' A2 : List IV} {q q' : IV} {k1 k2 : List Nat} (h4 : q' = q) (h5 : A2 = A') (h1 : resX fn TT σ = some (q', k1) := by first | rfl | (simp only [go_sem, reduceIte] <;> rfl)) (h2 : outA kp σ.L gs (impl 0 A).1 A = some (A2, k2) := by first | rfl | (simp only [go_sem, reduceIte] <;> rfl)) (h3 : nodupB (k1 ++ k2) [] = true := by rfl) : Fin fn TT kp gs A q A' σ := Fin.of h1 h2 h3 h4 h5
theorem WK.e1 {id id' : Nat} {N' N2 : St → Prop} (h : N σ) (hne : id ≠ id' := by decide) : WK P fx (.exit id) N' (exQ id' N2 (exQ id N Q)) σ := WK.exit_out1 hne h
theorem WK.e2 {id i1 i2 : Nat} {N' N2 N3 : St → Prop} (h : N σ) (h1 : id ≠ i1 := by decide) (h2 : id ≠ i2 := by decide) : WK P fx (.exit id) N' (exQ i1 N2 (exQ i2 N3 (exQ id N Q))) σ := WK.exit_out2 h1 h2 h
theorem WK.cn (h1 : b = true → WK P fx x N Q σ) (h2 : b = false → WK P fx y N Q σ) (hb : ev σ c = some (.v (.bool b)) := by rfl) : WK P fx (.cond c x y) N Q σ := WK.cond hb h1 h2
end
end
end Go.Lift
/- The short forms again, for walks with facts: what is known stands in a hypothesis named FX. -/
namespace Go.Lift
open Go Go.RowKit

section
variable {P : Program} {TT : TTab} {fx : Fx} {G : List (Nat × List IV)}
section
variable {ops : Array Oper} {o : Oper} {l : List Oper} {σ σ' : St} {K : St → Prop}
theorem IL.sgF (htt : TTok P TT) (hr : IL P fx ops l K σ') (hg : Gok ops σ o := by exact cG) (h : ∀ K : St → Prop, K σ' → stepOp TT o σ K := by intro K hK; simp only [go_sem, reduceIte, FX]; first | exact hK | (and_intros <;> first | exact hK | omega | assumption | rfl | decide)) : IL P fx ops (o :: l) K σ := IL.stepg htt hg h hr
theorem IL.cSF (htt : TTok P TT) {f : FuncId} (hen : Ent P f) (ms : List Md) (keep : Bool) {xs A A' : List IV} {rr : IV} {bs ks : List Nat} {sets : List (Nat × Blk)} {pushes : List Blk} (hr : IL P fx ops l K σ')
    (hg : Gok ops σ o := by exact cG) (hc : isCall σ o = some (f, xs) := by rfl) (hA : exA σ.L TT ms xs = some (A, bs, ks) := by first | rfl | (simp only [go_sem, reduceIte, FX] <;> rfl)) (hS : SCall P f A rr A') (hnd : nodupB ks bs = true := by rfl) (hok : okI rr = true := by rfl) (hkr : (!keep || noTr rr) = true := by first | rfl | (simp only [go_sem]; done))
    (hi : impA keep σ.L (σ.L.length + (imp σ.L.length rr).2.length) ms xs A' = some (sets, pushes) := by first | rfl | (simp only [go_sem, reduceIte, FX] <;> rfl)) (hsub : ∀ s ∈ sets, s.1 ∈ ks := by (simp; done))
    (hK : ∀ K : St → Prop, K σ' → fin o σ (imp σ.L.length rr).1 (setL (clearL (if keep = true then σ.L else frzL σ.L bs) ks) sets ++ ((imp σ.L.length rr).2 ++ pushes).map some) K := by intro K hK; simp only [go_sem, reduceIte, FX]; first | exact hK | (and_intros <;> first | exact hK | omega | assumption | rfl | decide)) : IL P fx ops (o :: l) K σ :=
  IL.callS htt hen ms keep hg hc hA hS hnd hok hkr hi hsub hK hr
theorem IL.cSGF (hgf : GFx G fx) (htt : TTok P TT) {f : FuncId} (hen : Ent P f) (ms : List Md) (keep : Bool) {xs A A' : List IV} {rr : IV} {bs ks : List Nat} {sets : List (Nat × Blk)} {pushes : List Blk} (hr : IL P fx ops l K σ')
    (hg : Gok ops σ o := by exact cG) (hc : isCall σ o = some (f, xs) := by rfl) (hA : exA σ.L TT ms xs = some (A, bs, ks) := by first | rfl | (simp only [go_sem, reduceIte, FX] <;> rfl)) (hS : SCallG G P f A rr A') (hnd : nodupB ks bs = true := by rfl) (hok : okI rr = true := by rfl) (hkr : (!keep || noTr rr) = true := by first | rfl | (simp only [go_sem]; done))
    (hi : impA keep σ.L (σ.L.length + (imp σ.L.length rr).2.length) ms xs A' = some (sets, pushes) := by first | rfl | (simp only [go_sem, reduceIte, FX] <;> rfl)) (hsub : ∀ s ∈ sets, s.1 ∈ ks := by (simp; done))
    (hK : ∀ K : St → Prop, K σ' → fin o σ (imp σ.L.length rr).1 (setL (clearL (if keep = true then σ.L else frzL σ.L bs) ks) sets ++ ((imp σ.L.length rr).2 ++ pushes).map some) K := by intro K hK; simp only [go_sem, reduceIte, FX]; first | exact hK | (and_intros <;> first | exact hK | omega | assumption | rfl | decide)) : IL P fx ops (o :: l) K σ :=
  IL.callSG hgf htt hen ms keep hg hc hA hS hnd hok hkr hi hsub hK hr
end
section
variable {ops : List Oper} {X B lo hi : List Nat} {i N : Nat} {o : Oper} {r : List Oper} {T T' : List (Nat × IV)} {Ls : List (List (Option Blk))} {K : St → Prop} {L L' : List (Option Blk)}
theorem DW.reF (htt : TTok P TT) (hrest : DW P fx ops X B lo hi (i + 1) r N T' Ls K) (hb : B.contains i = false := by rfl) (hr : isRd o.op = true := by rfl) (hlh : lo.getD i 0 = hi.getD i 0 := by decide) (hL : Ls[Ls.length - 1 - lo.getD i 0]? = some L := by rfl) (hg : Gok ops.toArray ⟨N, T, L⟩ o := by exact cG)
    (h : ∀ K : St → Prop, K ⟨N, T', L⟩ → stepOp TT o ⟨N, T, L⟩ K := by intro K hK; simp only [go_sem, reduceIte, FX]; first | exact hK | (and_intros <;> first | exact hK | omega | assumption | rfl | decide)) (hp : putOk o.dst T T' := by first | exact ⟨_, rfl⟩ | rfl) : DW P fx ops X B lo hi i (o :: r) N T Ls K := DW.rd htt hb hr hlh hL hg h hp hrest
theorem DW.rmF (htt : TTok P TT) (hrest : DW P fx ops X B lo hi (i + 1) r N T' Ls K) (hb : B.contains i = false := by rfl) (hr : isRd o.op = true := by rfl) (hL : (Ls[Ls.length - 1 - lo.getD i 0]?).map (maskL X 0) = some L := by rfl) (hg : Gok ops.toArray ⟨N, T, L⟩ o := by exact cG)
    (h : ∀ K : St → Prop, K ⟨N, T', L⟩ → stepOp TT o ⟨N, T, L⟩ K := by intro K hK; simp only [go_sem, reduceIte, FX]; first | exact hK | (and_intros <;> first | exact hK | omega | assumption | rfl | decide)) (hp : putOk o.dst T T' := by first | exact ⟨_, rfl⟩ | rfl) : DW P fx ops X B lo hi i (o :: r) N T Ls K := DW.rdm htt hb hr hL hg h hp hrest
end
end
end Go.Lift
/- The kit's own contracts, aL contracts of this library: what is only read in, plain values out. -/
namespace Go.Lift
open Go Go.RowKit

end Go.Lift
/- Rows whose elements hold trees. -/
namespace Go.Lift
class CellsT {α : Type} (f : α → List IV) (n : outParam Nat) : Prop where
  len : ∀ a, (f a).length = n
  tree : ∀ a, (f a).all isTree = true
section
variable {α : Type} {f : α → List IV} {n : Nat} [h : CellsT f n]
include h
@[go_sem] theorem cellsT_take (l : List α) (k : Nat) : (encs f l).take (k * n) = encs f (l.take k) := encs_take h.len l k
@[go_sem] theorem cellsT_length (l : List α) : (encs f l).length = l.length * n := encs_length h.len l
@[go_sem] theorem cellsT_isTree (l : List α) : (encs f l).all isTree = true := encs_all h.tree l
@[go_sem] theorem cellsT_len1 (a : α) : (f a).length = n := h.len a
end
end Go.Lift
/- Floats that are whole numbers. -/
namespace Go.Lift
open Go Go.RowKit

end Go.Lift
/- Walks in whole numbers; their bits. -/
namespace Go.Lift
open Go Go.RowKit

end Go.Lift
/- Package variables that hold tables of numbers, out of what a row's condition says of them. -/
namespace Go.Lift
open Go Go.RowKit

theorem laidMet_tail {P : Program} {x : String × DataW Unit} {rest : List (String × DataW Unit)} {W : World} (h : laidMet P (x :: rest) W) : laidMet P rest W := by
  obtain ⟨ps, ⟨g, t, cs, fuel, p, q, e1, e2, e3, e4, e5, e6⟩, hnd, hb⟩ := h
  subst e6
  exact ⟨q, e5, (List.nodup_append.1 hnd).2.1, fun b off h => hb b off (by simp [h])⟩
theorem GOk.of_tab {P : Program} {W : World} {name : String} {g : Nat} {k : IntKind} {zs : List Int} (hg : P.globalNamed name = some g) (h : Lib.TabIs P W name k zs) :
    Rb W g ∧ TRm (Rb W) W (zs.map fun z => .v (.int k z)) g 0 ∧ ∃ (arr : Array Value) (t : TypeId) (fr : Nat × Nat), W.heap[g]? = some (.cells arr t fr) ∧ arr.size = (zs.map fun z => IV.v (.int k z)).length := by
  refine GOk.one hg h (by simp) fun i x hx => ?_
  rw [List.getElem?_map] at hx
  obtain ⟨z, hz, rfl⟩ := Option.map_eq_some_iff.1 hx
  exact ⟨.int k z, by simp [hz], by unfold TR; rfl, rfl⟩
end Go.Lift
