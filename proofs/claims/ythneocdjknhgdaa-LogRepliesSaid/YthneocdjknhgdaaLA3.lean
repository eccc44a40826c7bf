import Derived.Laws.ComplexArith
import Derived.Lib.SliceRun
import Derived.Maps.Keyed
import Derived.WalkSpells
import Derived.Lib.SlBytesConst
import Derived.Test.YthneocdjknhgdaaLA2
set_option linter.unusedVariables false
set_option linter.unusedSimpArgs false
/- Short forms of the rules: what a rule asks for besides its next step is done by itself. -/
namespace Go.Lift
open Go Go.RowKit

theorem cG {p : Prop} (h : p := by first | exact .inl rfl | (refine Gok.mk2 (b := ?_) rfl ?_ ?_; rotate_left 1; (focus rfl); (focus (with_reducible rfl)))) : p := h
theorem cW {p : Prop} (h : p := by first | exact wrap_i64 (by omega) (by omega) | exact wrap_u64 (by omega) (by omega) | exact wrap_u32 (by omega) (by omega) | exact wrap_u16 (by omega) (by omega) | exact wrap_u8 (by omega) (by omega)) : p := h
theorem hsA : (∀ a b : Bool, ((a && b) = true) = (a = true ∧ b = true)) ∧ (∀ a b : Bool, ((a && b) = false) = (a = false ∨ b = false)) ∧ (∀ a b : Bool, ((a || b) = true) = (a = true ∨ b = true)) ∧ (∀ a b : Bool, ((a || b) = false) = (a = false ∧ b = false)) ∧
    (∀ a : Bool, ((!a) = true) = (a = false)) ∧ (∀ a : Bool, ((!a) = false) = (a = true)) := by
  refine ⟨?_, ?_, ?_, ?_, ?_, ?_⟩ <;> simp
theorem hsD {p : Prop} [Decidable p] : ((decide p = true) = p) ∧ ((decide p = false) = ¬ p) ∧ ((¬ ¬ p) ↔ p) := by simp
theorem hsE {α : Type} [BEq α] [LawfulBEq α] {a b : α} : ((a == b) = true ↔ a = b) ∧ ((a == b) = false ↔ ¬ a = b) ∧ ((a != b) = true ↔ ¬ a = b) ∧ ((a != b) = false ↔ a = b) := by simp
section
variable {P : Program} {TT : TTab} {fx : Fx} {G : List (Nat × List IV)}
section
variable {ops : Array Oper} {o : Oper} {l : List Oper} {σ σ' : St} {K : St → Prop}
theorem IL.sg (htt : TTok P TT) (hr : IL P fx ops l K σ') (hg : Gok ops σ o := by exact cG) (h : ∀ K : St → Prop, K σ' → stepOp TT o σ K := by intro K hK; simp only [go_sem, reduceIte]; first | exact hK | (and_intros <;> first | exact hK | omega | assumption | rfl | decide)) : IL P fx ops (o :: l) K σ := IL.stepg htt hg h hr
theorem IL.nn (hr : IL P fx ops l K σ') (hg : Gno ops σ o := by first | (refine Gno.mkT (b := ?_) rfl ?_ ?_; rotate_left 1; (focus rfl); (focus (with_reducible rfl))) | (refine Gno.mkF (b := ?_) rfl ?_ ?_; rotate_left 1; (focus rfl); (focus (with_reducible rfl))) | exact Gno.mkU rfl rfl)
    (h : ∀ K : St → Prop, K σ' → skipOp o σ K := by intro K hK; simp only [go_sem, reduceIte]; exact hK) : IL P fx ops (o :: l) K σ := IL.no hg h hr
theorem IL.cS (htt : TTok P TT) {f : FuncId} (hen : Ent P f) (ms : List Md) (keep : Bool) {xs A A' : List IV} {rr : IV} {bs ks : List Nat} {sets : List (Nat × Blk)} {pushes : List Blk} (hr : IL P fx ops l K σ')
    (hg : Gok ops σ o := by exact cG) (hc : isCall σ o = some (f, xs) := by rfl) (hA : exA σ.L TT ms xs = some (A, bs, ks) := by first | rfl | (simp only [go_sem, reduceIte] <;> rfl)) (hS : SCall P f A rr A') (hnd : nodupB ks bs = true := by rfl) (hok : okI rr = true := by rfl) (hkr : (!keep || noTr rr) = true := by first | rfl | (simp only [go_sem]; done))
    (hi : impA keep σ.L (σ.L.length + (imp σ.L.length rr).2.length) ms xs A' = some (sets, pushes) := by first | rfl | (simp only [go_sem, reduceIte] <;> rfl)) (hsub : ∀ s ∈ sets, s.1 ∈ ks := by (simp; done))
    (hK : ∀ K : St → Prop, K σ' → fin o σ (imp σ.L.length rr).1 (setL (clearL (if keep = true then σ.L else frzL σ.L bs) ks) sets ++ ((imp σ.L.length rr).2 ++ pushes).map some) K := by intro K hK; simp only [go_sem, reduceIte]; first | exact hK | (and_intros <;> first | exact hK | omega | assumption | rfl | decide)) : IL P fx ops (o :: l) K σ :=
  IL.callS htt hen ms keep hg hc hA hS hnd hok hkr hi hsub hK hr
end
section
variable {opa : Array Oper} {o : Oper} {r : List Oper} {N : Nat} {T : List (Nat × IV)} {L : List (Option Blk)} {K : St → Prop} {b : Bool} {d : Nat}
theorem IL.ag (h1 : b = true → IL P fx opa (o :: r) K ⟨N, (d, .v (.bool true)) :: T, L⟩) (h2 : b = false → IL P fx opa (o :: r) K ⟨N, (d, .v (.bool false)) :: T, L⟩) (hd : gslot opa o = some d := by rfl) (h : lk T d = some (.v (.bool b)) := by rfl) : IL P fx opa (o :: r) K ⟨N, T, L⟩ := IL.askg hd h h1 h2
theorem IL.ap (h1 : b = true → IL P fx opa (o :: r) K ⟨N, (d, .v (.bool true)) :: T, L⟩) (h2 : b = false → IL P fx opa (o :: r) K ⟨N, (d, .v (.bool false)) :: T, L⟩) (hd : pslot o = some d := by rfl) (h : lk T d = some (.v (.bool b)) := by rfl) : IL P fx opa (o :: r) K ⟨N, T, L⟩ := IL.askp hd h h1 h2
end
section
variable {ops : List Oper} {X B lo hi : List Nat} {i N : Nat} {o : Oper} {r : List Oper} {T T' : List (Nat × IV)} {Ls : List (List (Option Blk))} {K : St → Prop} {L L' : List (Option Blk)}
theorem DW.ag {b : Bool} {d : Nat} (h1 : b = true → DW P fx ops X B lo hi i (o :: r) N ((d, .v (.bool true)) :: T) Ls K) (h2 : b = false → DW P fx ops X B lo hi i (o :: r) N ((d, .v (.bool false)) :: T) Ls K) (hd : gslot ops.toArray o = some d := by rfl) (h : lk T d = some (.v (.bool b)) := by rfl) : DW P fx ops X B lo hi i (o :: r) N T Ls K := DW.askg hd h h1 h2
theorem DW.ap {b : Bool} {d : Nat} (h1 : b = true → DW P fx ops X B lo hi i (o :: r) N ((d, .v (.bool true)) :: T) Ls K) (h2 : b = false → DW P fx ops X B lo hi i (o :: r) N ((d, .v (.bool false)) :: T) Ls K) (hd : pslot o = some d := by rfl) (h : lk T d = some (.v (.bool b)) := by rfl) : DW P fx ops X B lo hi i (o :: r) N T Ls K := DW.askp hd h h1 h2
theorem DW.re (htt : TTok P TT) (hrest : DW P fx ops X B lo hi (i + 1) r N T' Ls K) (hb : B.contains i = false := by rfl) (hr : isRd o.op = true := by rfl) (hlh : lo.getD i 0 = hi.getD i 0 := by decide) (hL : Ls[Ls.length - 1 - lo.getD i 0]? = some L := by rfl) (hg : Gok ops.toArray ⟨N, T, L⟩ o := by exact cG)
    (h : ∀ K : St → Prop, K ⟨N, T', L⟩ → stepOp TT o ⟨N, T, L⟩ K := by intro K hK; simp only [go_sem, reduceIte]; first | exact hK | (and_intros <;> first | exact hK | omega | assumption | rfl | decide)) (hp : putOk o.dst T T' := by first | exact ⟨_, rfl⟩ | rfl) : DW P fx ops X B lo hi i (o :: r) N T Ls K := DW.rd htt hb hr hlh hL hg h hp hrest
theorem DW.rm (htt : TTok P TT) (hrest : DW P fx ops X B lo hi (i + 1) r N T' Ls K) (hb : B.contains i = false := by rfl) (hr : isRd o.op = true := by rfl) (hL : (Ls[Ls.length - 1 - lo.getD i 0]?).map (maskL X 0) = some L := by rfl) (hg : Gok ops.toArray ⟨N, T, L⟩ o := by exact cG)
    (h : ∀ K : St → Prop, K ⟨N, T', L⟩ → stepOp TT o ⟨N, T, L⟩ K := by intro K hK; simp only [go_sem, reduceIte]; first | exact hK | (and_intros <;> first | exact hK | omega | assumption | rfl | decide)) (hp : putOk o.dst T T' := by first | exact ⟨_, rfl⟩ | rfl) : DW P fx ops X B lo hi i (o :: r) N T Ls K := DW.rdm htt hb hr hL hg h hp hrest
theorem DW.bk (htt : TTok P TT) (hrest : DW P fx ops X B lo hi (i + 1) r N T' (L' :: L :: Ls) K) (hb : B.contains i = true := by rfl) (hg : Gok ops.toArray ⟨N, T, L⟩ o := by exact cG)
    (h : ∀ K : St → Prop, K ⟨N, T', L'⟩ → stepOp TT o ⟨N, T, L⟩ K := by intro K hK; simp only [go_sem, reduceIte]; first | exact hK | (and_intros <;> first | exact hK | omega | assumption | rfl | decide)) (hp : putOk o.dst T T' := by first | exact ⟨_, rfl⟩ | rfl)
    (hs : strad lo hi ops.length Ls.length = false ∨ LEX X L L' := by first | exact .inl rfl | exact .inr (LEX.refl _ _) | exact .inr (LE.app _ _).lex | exact .inr (LEX.of (by simp only [go_sem, List.contains_cons, List.contains_nil, Nat.reduceBEq, Bool.or_false, Bool.false_or, Nat.reduceAdd, true_or, false_or, true_and]; first | done | trivial | (and_intros <;> first | exact ⟨_, rfl⟩ | trivial)))) : DW P fx ops X B lo hi i (o :: r) N T (L :: Ls) K := DW.bl htt hb hg h hp hs hrest
theorem DW.nn (hrest : DW P fx ops X B lo hi (i + 1) r N T' Ls K) (hL : Ls[Ls.length - 1 - lo.getD i 0]? = some L := by rfl) (hb : B.contains i = false := by rfl) (hg : Gno ops.toArray ⟨N, T, L⟩ o := by first | (refine Gno.mkT (b := ?_) rfl ?_ ?_; rotate_left 1; (focus rfl); (focus (with_reducible rfl))) | (refine Gno.mkF (b := ?_) rfl ?_ ?_; rotate_left 1; (focus rfl); (focus (with_reducible rfl))) | exact Gno.mkU rfl rfl)
    (h : ∀ K : St → Prop, K ⟨N, T', L⟩ → skipOp o ⟨N, T, L⟩ K := by intro K hK; simp only [go_sem, reduceIte]; exact hK) (hp : putOk o.dst T T' := by first | exact ⟨_, rfl⟩ | rfl) : DW P fx ops X B lo hi i (o :: r) N T Ls K := DW.no hL hb hg h hp hrest
theorem DW.nb (hrest : DW P fx ops X B lo hi (i + 1) r N T' (L :: L :: Ls) K) (hb : B.contains i = true := by rfl) (hg : Gno ops.toArray ⟨N, T, L⟩ o := by first | (refine Gno.mkT (b := ?_) rfl ?_ ?_; rotate_left 1; (focus rfl); (focus (with_reducible rfl))) | (refine Gno.mkF (b := ?_) rfl ?_ ?_; rotate_left 1; (focus rfl); (focus (with_reducible rfl))) | exact Gno.mkU rfl rfl)
    (h : ∀ K : St → Prop, K ⟨N, T', L⟩ → skipOp o ⟨N, T, L⟩ K := by intro K hK; simp only [go_sem, reduceIte]; exact hK) (hp : putOk o.dst T T' := by first | exact ⟨_, rfl⟩ | rfl) : DW P fx ops X B lo hi i (o :: r) N T (L :: Ls) K := DW.nob hb hg h hp hrest
theorem DW.cS (htt : TTok P TT) {f : FuncId} (hen : Ent P f) (ms : List Md) (keep : Bool) {xs A A' : List IV} {rr : IV} {bs ks : List Nat} {sets : List (Nat × Blk)} {pushes : List Blk} (hrest : DW P fx ops X B lo hi (i + 1) r N T' (L' :: L :: Ls) K)
    (hb : B.contains i = true := by rfl) (hg : Gok ops.toArray ⟨N, T, L⟩ o := by exact cG) (hc : isCall ⟨N, T, L⟩ o = some (f, xs) := by rfl) (hA : exA L TT ms xs = some (A, bs, ks) := by first | rfl | (simp only [go_sem, reduceIte] <;> rfl)) (hS : SCall P f A rr A') (hnd : nodupB ks bs = true := by rfl) (hok : okI rr = true := by rfl) (hkr : (!keep || noTr rr) = true := by first | rfl | (simp only [go_sem]; done))
    (hi' : impA keep L (L.length + (imp L.length rr).2.length) ms xs A' = some (sets, pushes) := by first | rfl | (simp only [go_sem, reduceIte] <;> rfl)) (hsub : ∀ s ∈ sets, s.1 ∈ ks := by (simp; done))
    (hK : ∀ K : St → Prop, K ⟨N, T', L'⟩ → fin o ⟨N, T, L⟩ (imp L.length rr).1 (setL (clearL (if keep = true then L else frzL L bs) ks) sets ++ ((imp L.length rr).2 ++ pushes).map some) K := by intro K hK; simp only [go_sem, reduceIte]; first | exact hK | (and_intros <;> first | exact hK | omega | assumption | rfl | decide))
    (hp : putOk o.dst T T' := by first | exact ⟨_, rfl⟩ | rfl)
    (hs : strad lo hi ops.length Ls.length = false ∨ LEX X L L' := by first | exact .inl rfl | exact .inr (LEX.refl _ _) | exact .inr (LE.app _ _).lex | exact .inr (LEX.of (by simp only [go_sem, List.contains_cons, List.contains_nil, Nat.reduceBEq, Bool.or_false, Bool.false_or, Nat.reduceAdd, true_or, false_or, true_and]; first | done | trivial | (and_intros <;> first | exact ⟨_, rfl⟩ | trivial)))) : DW P fx ops X B lo hi i (o :: r) N T (L :: Ls) K :=
  DW.callS htt hen ms keep hb hg hc hA hS hnd hok hkr hi' hsub hK hp hs hrest
end
section
variable {c : Operand} {x y : Code} {N : St → Prop} {Q : Exit → St → Prop} {σ : St} {b : Bool}
theorem Fin.o {fn : Func} {kp : Nat → Bool} {gs : List Bool} {A A' A2 : List IV} {q q' : IV} {k1 k2 : List Nat} (h4 : q' = q) (h5 : A2 = A') (h1 : resX fn TT σ = some (q', k1) := by first | rfl | (simp only [go_sem, reduceIte] <;> rfl)) (h2 : outA kp σ.L gs (impl 0 A).1 A = some (A2, k2) := by first | rfl | (simp only [go_sem, reduceIte] <;> rfl)) (h3 : nodupB (k1 ++ k2) [] = true := by rfl) : Fin fn TT kp gs A q A' σ := Fin.of h1 h2 h3 h4 h5
theorem WK.e1 {id id' : Nat} {N' N2 : St → Prop} (h : N σ) (hne : id ≠ id' := by decide) : WK P fx (.exit id) N' (exQ id' N2 (exQ id N Q)) σ := WK.exit_out1 hne h
theorem WK.e2 {id i1 i2 : Nat} {N' N2 N3 : St → Prop} (h : N σ) (h1 : id ≠ i1 := by decide) (h2 : id ≠ i2 := by decide) : WK P fx (.exit id) N' (exQ i1 N2 (exQ i2 N3 (exQ id N Q))) σ := WK.exit_out2 h1 h2 h
theorem WK.cn (h1 : b = true → WK P fx x N Q σ) (h2 : b = false → WK P fx y N Q σ) (hb : ev σ c = some (.v (.bool b)) := by rfl) : WK P fx (.cond c x y) N Q σ := WK.cond hb h1 h2
end
end
end Go.Lift
/- The short forms again, for walks with facts: what is known stands in a hypothesis named FX. -/
namespace Go.Lift
open Go Go.RowKit

section
variable {P : Program} {TT : TTab} {fx : Fx} {G : List (Nat × List IV)}
section
variable {ops : Array Oper} {o : Oper} {l : List Oper} {σ σ' : St} {K : St → Prop}
theorem IL.sgF (htt : TTok P TT) (hr : IL P fx ops l K σ') (hg : Gok ops σ o := by exact cG) (h : ∀ K : St → Prop, K σ' → stepOp TT o σ K := by intro K hK; simp only [go_sem, reduceIte, FX]; first | exact hK | (and_intros <;> first | exact hK | omega | assumption | rfl | decide)) : IL P fx ops (o :: l) K σ := IL.stepg htt hg h hr
theorem IL.cSF (htt : TTok P TT) {f : FuncId} (hen : Ent P f) (ms : List Md) (keep : Bool) {xs A A' : List IV} {rr : IV} {bs ks : List Nat} {sets : List (Nat × Blk)} {pushes : List Blk} (hr : IL P fx ops l K σ')
    (hg : Gok ops σ o := by exact cG) (hc : isCall σ o = some (f, xs) := by rfl) (hA : exA σ.L TT ms xs = some (A, bs, ks) := by first | rfl | (simp only [go_sem, reduceIte, FX] <;> rfl)) (hS : SCall P f A rr A') (hnd : nodupB ks bs = true := by rfl) (hok : okI rr = true := by rfl) (hkr : (!keep || noTr rr) = true := by first | rfl | (simp only [go_sem]; done))
    (hi : impA keep σ.L (σ.L.length + (imp σ.L.length rr).2.length) ms xs A' = some (sets, pushes) := by first | rfl | (simp only [go_sem, reduceIte, FX] <;> rfl)) (hsub : ∀ s ∈ sets, s.1 ∈ ks := by (simp; done))
    (hK : ∀ K : St → Prop, K σ' → fin o σ (imp σ.L.length rr).1 (setL (clearL (if keep = true then σ.L else frzL σ.L bs) ks) sets ++ ((imp σ.L.length rr).2 ++ pushes).map some) K := by intro K hK; simp only [go_sem, reduceIte, FX]; first | exact hK | (and_intros <;> first | exact hK | omega | assumption | rfl | decide)) : IL P fx ops (o :: l) K σ :=
  IL.callS htt hen ms keep hg hc hA hS hnd hok hkr hi hsub hK hr
end
section
variable {ops : List Oper} {X B lo hi : List Nat} {i N : Nat} {o : Oper} {r : List Oper} {T T' : List (Nat × IV)} {Ls : List (List (Option Blk))} {K : St → Prop} {L L' : List (Option Blk)}
theorem DW.reF (htt : TTok P TT) (hrest : DW P fx ops X B lo hi (i + 1) r N T' Ls K) (hb : B.contains i = false := by rfl) (hr : isRd o.op = true := by rfl) (hlh : lo.getD i 0 = hi.getD i 0 := by decide) (hL : Ls[Ls.length - 1 - lo.getD i 0]? = some L := by rfl) (hg : Gok ops.toArray ⟨N, T, L⟩ o := by exact cG)
    (h : ∀ K : St → Prop, K ⟨N, T', L⟩ → stepOp TT o ⟨N, T, L⟩ K := by intro K hK; simp only [go_sem, reduceIte, FX]; first | exact hK | (and_intros <;> first | exact hK | omega | assumption | rfl | decide)) (hp : putOk o.dst T T' := by first | exact ⟨_, rfl⟩ | rfl) : DW P fx ops X B lo hi i (o :: r) N T Ls K := DW.rd htt hb hr hlh hL hg h hp hrest
theorem DW.rmF (htt : TTok P TT) (hrest : DW P fx ops X B lo hi (i + 1) r N T' Ls K) (hb : B.contains i = false := by rfl) (hr : isRd o.op = true := by rfl) (hL : (Ls[Ls.length - 1 - lo.getD i 0]?).map (maskL X 0) = some L := by rfl) (hg : Gok ops.toArray ⟨N, T, L⟩ o := by exact cG)
    (h : ∀ K : St → Prop, K ⟨N, T', L⟩ → stepOp TT o ⟨N, T, L⟩ K := by intro K hK; simp only [go_sem, reduceIte, FX]; first | exact hK | (and_intros <;> first | exact hK | omega | assumption | rfl | decide)) (hp : putOk o.dst T T' := by first | exact ⟨_, rfl⟩ | rfl) : DW P fx ops X B lo hi i (o :: r) N T Ls K := DW.rdm htt hb hr hL hg h hp hrest
theorem DW.bkF (htt : TTok P TT) (hrest : DW P fx ops X B lo hi (i + 1) r N T' (L' :: L :: Ls) K) (hb : B.contains i = true := by rfl) (hg : Gok ops.toArray ⟨N, T, L⟩ o := by exact cG)
    (h : ∀ K : St → Prop, K ⟨N, T', L'⟩ → stepOp TT o ⟨N, T, L⟩ K := by intro K hK; simp only [go_sem, reduceIte, FX]; first | exact hK | (and_intros <;> first | exact hK | omega | assumption | rfl | decide)) (hp : putOk o.dst T T' := by first | exact ⟨_, rfl⟩ | rfl)
    (hs : strad lo hi ops.length Ls.length = false ∨ LEX X L L' := by first | exact .inl rfl | exact .inr (LEX.refl _ _) | exact .inr (LE.app _ _).lex | exact .inr (LEX.of (by simp only [go_sem, List.contains_cons, List.contains_nil, Nat.reduceBEq, Bool.or_false, Bool.false_or, Nat.reduceAdd, true_or, false_or, true_and]; first | done | trivial | (and_intros <;> first | exact ⟨_, rfl⟩ | trivial)))) : DW P fx ops X B lo hi i (o :: r) N T (L :: Ls) K := DW.bl htt hb hg h hp hs hrest
theorem DW.cSF (htt : TTok P TT) {f : FuncId} (hen : Ent P f) (ms : List Md) (keep : Bool) {xs A A' : List IV} {rr : IV} {bs ks : List Nat} {sets : List (Nat × Blk)} {pushes : List Blk} (hrest : DW P fx ops X B lo hi (i + 1) r N T' (L' :: L :: Ls) K)
    (hb : B.contains i = true := by rfl) (hg : Gok ops.toArray ⟨N, T, L⟩ o := by exact cG) (hc : isCall ⟨N, T, L⟩ o = some (f, xs) := by rfl) (hA : exA L TT ms xs = some (A, bs, ks) := by first | rfl | (simp only [go_sem, reduceIte, FX] <;> rfl)) (hS : SCall P f A rr A') (hnd : nodupB ks bs = true := by rfl) (hok : okI rr = true := by rfl) (hkr : (!keep || noTr rr) = true := by first | rfl | (simp only [go_sem]; done))
    (hi' : impA keep L (L.length + (imp L.length rr).2.length) ms xs A' = some (sets, pushes) := by first | rfl | (simp only [go_sem, reduceIte, FX] <;> rfl)) (hsub : ∀ s ∈ sets, s.1 ∈ ks := by (simp; done))
    (hK : ∀ K : St → Prop, K ⟨N, T', L'⟩ → fin o ⟨N, T, L⟩ (imp L.length rr).1 (setL (clearL (if keep = true then L else frzL L bs) ks) sets ++ ((imp L.length rr).2 ++ pushes).map some) K := by intro K hK; simp only [go_sem, reduceIte, FX]; first | exact hK | (and_intros <;> first | exact hK | omega | assumption | rfl | decide))
    (hp : putOk o.dst T T' := by first | exact ⟨_, rfl⟩ | rfl)
    (hs : strad lo hi ops.length Ls.length = false ∨ LEX X L L' := by first | exact .inl rfl | exact .inr (LEX.refl _ _) | exact .inr (LE.app _ _).lex | exact .inr (LEX.of (by simp only [go_sem, List.contains_cons, List.contains_nil, Nat.reduceBEq, Bool.or_false, Bool.false_or, Nat.reduceAdd, true_or, false_or, true_and]; first | done | trivial | (and_intros <;> first | exact ⟨_, rfl⟩ | trivial)))) : DW P fx ops X B lo hi i (o :: r) N T (L :: Ls) K :=
  DW.callS htt hen ms keep hb hg hc hA hS hnd hok hkr hi' hsub hK hp hs hrest
end
end
end Go.Lift
/- The kit's own contracts, aL contracts of this library: what is only read in, plain values out. -/
namespace Go.Lift
open Go Go.RowKit

end Go.Lift
/- Rows whose elements hold trees. -/
namespace Go.Lift
class CellsT {α : Type} (f : α → List IV) (n : outParam Nat) : Prop where
  len : ∀ a, (f a).length = n
  tree : ∀ a, (f a).all isTree = true
section
variable {α : Type} {f : α → List IV} {n : Nat} [h : CellsT f n]
include h
@[go_sem] theorem cellsT_take (l : List α) (k : Nat) : (encs f l).take (k * n) = encs f (l.take k) := encs_take h.len l k
@[go_sem] theorem cellsT_length (l : List α) : (encs f l).length = l.length * n := encs_length h.len l
@[go_sem] theorem cellsT_isTree (l : List α) : (encs f l).all isTree = true := encs_all h.tree l
@[go_sem] theorem cellsT_len1 (a : α) : (f a).length = n := h.len a
end
end Go.Lift
/- Floats that are whole numbers. -/
namespace Go.Lift
open Go Go.RowKit

end Go.Lift
/- Package variables that hold tables of numbers, out of what a row's condition says of them. -/
namespace Go.Lift
open Go Go.RowKit

end Go.Lift
/- A slice is held against nil. -/
namespace Go.Lift
open Go Go.RowKit

def someIV : IV → Prop
  | .tr _ cs => cs ≠ []
  | .sl _ _ _ n => 0 < n
  | _ => False
section
variable {P : Program} {TT : TTab} {fx : Fx} {o : Oper} {K : St → Prop}
end
attribute [go_sem] someIV
end Go.Lift
/- Maps: made, looked up, written. -/
namespace Go.Lift
open Go Go.RowKit Go.Maps

def mcs (es : List (Value × Value)) : List IV := [.tr es.length (es.flatMap fun e => [.v e.1, .v e.2])]
def mblk (t : TypeId) (es : List (Value × Value)) (ver : Nat) : Blk := ⟨false, t, es.length, true, mcs es, ver, false⟩
def mget (es : List (Value × Value)) (k : Value) : Option Value → Prop
  | none => ∀ e ∈ es, e.1 ≠ k
  | some v => (k, v) ∈ es
def isVs : List IV → Option (List Value)
  | [] => some []
  | .v x :: r => (isVs r).map (x :: ·)
  | _ => none
def keyV : IV → Option Value
  | .v x => some x
  | .agg cs => (isVs cs).map fun l => .agg l.toArray
  | _ => none
theorem isVs_sound {cx : Cx} {w : World} : ∀ {cs : List IV} {l ys : List Value}, isVs cs = some l → VXl cx w cs ys → ys = l
  | [], l, ys, h, hv => by simp [isVs] at h; subst h; unfold VXl at hv; exact hv
  | x :: cs, l, ys, h, hv => by
    cases x <;> simp only [isVs] at h <;> first | cases h; done | skip
    rename_i x
    rw [Option.map_eq_some_iff] at h
    obtain ⟨l', h1, rfl⟩ := h
    unfold VXl at hv
    obtain ⟨y, ys', rfl, h2, h3⟩ := hv
    unfold VX at h2
    rw [h2, isVs_sound h1 h3]
theorem keyV_sound {cx : Cx} {w : World} {x : IV} {key y : Value} (h : keyV x = some key) (hv : VX cx w x y) : y = key := by
  cases x <;> simp only [keyV] at h <;> first | cases h; done | skip
  · cases h; unfold VX at hv; exact hv
  · rw [Option.map_eq_some_iff] at h
    obtain ⟨l, h1, rfl⟩ := h
    unfold VX at hv
    obtain ⟨arr, rfl, h2, _⟩ := hv
    rw [← isVs_sound h1 h2]
@[go_sem] theorem rnIVs_mcs (L : List (Option Blk)) (ks : List Nat) (es : List (Value × Value)) : rnIVs L ks (mcs es) = some (mcs es) := rfl
theorem flat_inj : ∀ {a b : List (Value × Value)}, (a.flatMap fun e => [IV.v e.1, IV.v e.2]) = (b.flatMap fun e => [IV.v e.1, IV.v e.2]) → a = b
  | [], [], _ => rfl
  | [], _ :: _, h => by simp at h
  | _ :: _, [], h => by simp at h
  | (x, y) :: a, (u, v) :: b, h => by
    simp only [List.flatMap_cons, List.cons_append, List.nil_append, List.cons.injEq, IV.v.injEq] at h
    rw [h.1, h.2.1, flat_inj h.2.2]
theorem MapOk.es {w : World} {p : Plc} {t : TypeId} {l : List (Value × Value)} {ver : Nat} (h : MapOk w p (mblk t l ver)) : ∃ g es clock, p.v = .map (some g) ∧ w.heap[g]? = some (.map es clock) ∧ es.toList.map (fun e => (e.key, e.val)) = l := by
  obtain ⟨g, es, clock, h1, h2, h3, h4⟩ := h.ex
  refine ⟨g, es, clock, h1, h2, ?_⟩
  simp only [mblk, mcs, List.cons.injEq, IV.tr.injEq, true_and, and_true] at h4
  refine flat_inj ?_
  rw [h4, List.flatMap_map]
theorem MapOk.put {w : World} {p : Plc} {t : TypeId} {l : List (Value × Value)} {ver g clock : Nat} {es : Array MapEntry} (h1 : p.v = .map (some g)) (h2 : w.heap[g]? = some (.map es clock)) (h3 : es.toList.map (fun e => (e.key, e.val)) = l) : MapOk w p (mblk t l ver) := by
  subst h3
  refine ⟨g, es, clock, h1, h2, by simp [mblk], ?_⟩
  simp [mblk, mcs, List.flatMap_map]
theorem key2_ok {P : Program} {t : TypeId} {f1 f2 : Field} {q1 q2 : IntKind} {a b : Int} (hu : P.underlying t = some (.struct #[f1, f2])) (h1 : P.underlying f1.type = some (.int q1)) (h2 : P.underlying f2.type = some (.int q2)) (c : P.cellsOf t = 2) (c1 : P.cellsOf f1.type = 1) (c2 : P.cellsOf f2.type = 1)
    (o1 : f1.offset = 0) (o2 : f2.offset = 1) (n1 : (f1.name != "_") = true) (n2 : (f2.name != "_") = true) (hk : P.keyType t = true) (hs : 0 < P.types.size) (w1 : (Lit.int q1 a).wf = true) (w2 : (Lit.int q2 b).wf = true) : (keyOf P t (.agg #[.int q1 a, .int q2 b])).isSome = true := by
  obtain ⟨d, hd⟩ : ∃ d, P.types.size = d + 1 := ⟨P.types.size - 1, by omega⟩
  have hf : (Value.agg #[.int q1 a, .int q2 b]).formed P t = true := by simp [Value.formed, hu, c]
  have k1 : P.keyLits (d + 1) f1.type [.int q1 a] = some [.int q1 a] := by simp [Program.keyLits, h1, w1]
  have k2 : P.keyLits (d + 1) f2.type [.int q2 b] = some [.int q2 b] := by simp [Program.keyLits, h2, w2]
  have k3 : P.keyLits (d + 1 + 1) t [.int q1 a, .int q2 b] = some [.int q1 a, .int q2 b] := by
    unfold Program.keyLits
    simp [hu, c, c1, c2, o1, o2, n1, n2, k1, k2]
  unfold keyOf
  rw [hu]
  simp [hk, hf, hd, Value.cells, k3]
section
variable {P : Program} {TT : TTab} {fx : Fx} {cx : Cx} {σ : St} {a : Act} {w : World} {o : Oper} {K : St → Prop}


theorem Mem.map (hm : Mem P fx cx σ w) {k ver v : Nat} {t : TypeId} {l : List (Value × Value)} {y : Value} (hy : VX cx w (.mp k ver) y) (hb : blkAt σ.L k ver = some (mblk t l v)) : ∃ p g es clock, At cx σ k (mblk t l v) p ∧ p.v = .map (some g) ∧ y = .map (some g) ∧ w.heap[g]? = some (.map es clock) ∧ es.toList.map (fun e => (e.key, e.val)) = l := by
  obtain ⟨p, q1, q2, q3⟩ := hm.atv hb
  unfold VX at hy
  obtain ⟨p', h1, g, h2, h3⟩ := hy
  rw [q2] at h1; cases h1
  rcases q3 with ⟨h, _⟩ | ⟨_, _, h⟩ | ⟨_, _, _, h | h⟩
  · simp [mblk] at h
  · obtain ⟨g', d, arr, T, h4, _⟩ := h.ex
    rw [h2] at h4; cases h4
  · obtain ⟨g', es, clock, h4, h5, h6⟩ := h.es
    rw [h2] at h4; cases h4
    exact ⟨p, g, es, clock, q1, h2, h3, h5, h6⟩
  · obtain ⟨g', cap, cur, h4, _⟩ := h.ex
    rw [h2] at h4; cases h4

theorem IP.mnil {t k e t' : TypeId} {x : Operand} {kk ver : Nat} (ho : o.op = .binOp .eql t x (.const (.map none)) t') (hu : P.underlying t = some (.map k e)) (hx : ev σ x = some (.mp kk ver)) (h2 : fin o σ (.v (.bool false)) σ.L K) : IP P fx o K σ := by
  intro cx a w next QQ hs hn
  have hy := ev_sound hs.s hx
  unfold VX at hy
  obtain ⟨p, _, g, _, e1⟩ := hy
  have e2 : a.eval (.const (.map none)) = .map none := rfl
  have hg : (eqGuard .eql t x (.const (.map none)) (.map (some g)) (.map none)).run P w = .ok () w := eqGuard_run rfl
  exact pure_sound hs (y := .bool false) (by simp [execOp, ho, e1, e2, hg, run_eql_map_nil w t k e (some g) hu]) (by simp [VX]) h2 fun σ1 cx' a' w' hk _ hs' => hn σ1 cx' a' w' hk hs'
theorem IP.mnil0 {t k e t' : TypeId} {x : Operand} (ho : o.op = .binOp .eql t x (.const (.map none)) t') (hu : P.underlying t = some (.map k e)) (hx : ev σ x = some (.v (.map none))) (h2 : fin o σ (.v (.bool true)) σ.L K) : IP P fx o K σ := by
  intro cx a w next QQ hs hn
  have e1 := VX.v_inv (ev_sound hs.s hx)
  have e2 : a.eval (.const (.map none)) = .map none := rfl
  have hg : (eqGuard .eql t x (.const (.map none)) (.map none) (.map none)).run P w = .ok () w := eqGuard_run rfl
  exact pure_sound hs (y := .bool true) (by simp [execOp, ho, e1, e2, hg, run_eql_map_nil w t k e none hu]) (by simp [VX]) h2 fun σ1 cx' a' w' hk _ hs' => hn σ1 cx' a' w' hk hs'
theorem IP.mmake {t : TypeId} (ho : o.op = .makeMap t none) (h2 : fin o σ (.mp σ.L.length 0) (σ.L ++ [some (mblk t [] 0)]) K) : IP P fx o K σ := by
  intro cx a w next QQ hs hn
  have hf := Fr.alloc_nil w (.map #[] 0)
  have hR := hs.m.heapEq hf
  have hm := hs.m.push hf (mblk t [] 0) ⟨.map (some w.heap.size), 0⟩ (.inr (.inr ⟨rfl, rfl, rfl, .inl (MapOk.put rfl (heap_alloc_at _ _) rfl)⟩)) rfl (by
    intro x hx bb o hh
    simp [Blk.rng] at hx
    subst hx
    exact Nat.le_of_eq hh.symm)
  have hle : cx.le (cx.add σ.L.length (mblk t [] 0).ver ⟨.map (some w.heap.size), 0⟩) := Cx.add_le (.inl (hs.m.none_at _))
  refine fin_sound hs.s (y := .map (some w.heap.size)) ?_ hle hm hR ?_ h2 fun σ1 cx' a' w' hk _ hs' => hn σ1 cx' a' w' hk hs'
  · simp [execOp, ho, Instr.makeMap]
  · unfold VX
    exact ⟨_, Cx.add_get _ _ _ _, _, rfl, rfl⟩
theorem IP.mlook {t k e : TypeId} {x y : Operand} {kk ver v : Nat} {kv : IV} {key z : Value} {l : List (Value × Value)} {r : Option Value} (K1 : Keyed P k) (ho : o.op = .lookup t x y true) (hu : P.underlying t = some (.map k e)) (hz : ∀ w, (zeroValue e).run P w = .ok z w)
    (hx : ev σ x = some (.mp kk ver)) (hy : ev σ y = some kv) (hkv : keyV kv = some key) (hb : blkAt σ.L kk ver = some (mblk t l v)) (hk : (keyOf P k key).isSome = true) (hl : ∀ e ∈ l, (keyOf P k e.1).isSome = true) (hr : ∀ r', mget l key r' → r' = r)
    (h2 : fin o σ (.tup [.v (r.getD z), .v (.bool r.isSome)]) σ.L K) : IP P fx o K σ := by
  intro cx a w next QQ hs hn
  obtain ⟨p, g, es, clock, q1, q2, q3, q4, q5⟩ := hs.m.map (ev_sound hs.s hx) hb
  have q6 := keyV_sound hkv (ev_sound hs.s hy)
  obtain ⟨kl, hkl⟩ := Option.isSome_iff_exists.1 hk
  have hes : ∀ e ∈ es.toList, ∃ l, keyOf P k e.key = some l := fun e he => Option.isSome_iff_exists.1 (hl (e.key, e.val) (by rw [← q5]; exact List.mem_map.2 ⟨e, he, rfl⟩))
  refine pure_sound hs (y := .tuple #[r.getD z, .bool r.isSome]) ?_ (by simp [VX, VXl]) h2 fun σ1 cx' a' w' hk _ hs' => hn σ1 cx' a' w' hk hs'
  rcases K1.find w hkl es.toList hes with ⟨h1, h2⟩ | ⟨j, e0, h1, h2, h3⟩
  · have hr := hr none (by
      intro e he; rw [← q5] at he; obtain ⟨e', he', rfl⟩ := List.mem_map.1 he; exact h2 e' he')
    subst hr
    simp [execOp, ho, q3, q6, Instr.lookup, run_underlying hu, MapKept.run_getObj_map q4, K1.check w _ hkl, h1, hz w, Result.andThen]
  · have hr := hr (some e0.val) (by
      show (key, e0.val) ∈ l
      rw [← q5, ← h3]; exact List.mem_map.2 ⟨e0, List.mem_of_getElem? h2, rfl⟩)
    subst hr
    simp [execOp, ho, q3, q6, Instr.lookup, run_underlying hu, MapKept.run_getObj_map q4, K1.check w _ hkl, h1, Result.andThen]
theorem IP.mput {t k e : TypeId} {x y u : Operand} {kk ver v : Nat} {kv : IV} {key val : Value} {l : List (Value × Value)} (K1 : Keyed P k) (ho : o.op = .mapUpdate t x y u) (hu : P.underlying t = some (.map k e))
    (hx : ev σ x = some (.mp kk ver)) (hy : ev σ y = some kv) (hkv : keyV kv = some key) (hv : ev σ u = some (.v val)) (hb : blkAt σ.L kk ver = some (mblk t l v)) (hk : (keyOf P k key).isSome = true) (hl : ∀ e ∈ l, (keyOf P k e.1).isSome = true) (hr : ∀ e ∈ l, e.1 ≠ key)
    (hd : o.dst = none) (h2 : K { σ with L := σ.L.set kk (some (mblk t (l ++ [(key, val)]) v)) }) : IP P fx o K σ := by
  intro cx a w next QQ hs hn
  obtain ⟨p, g, es, clock, q1, q2, q3, q4, q5⟩ := hs.m.map (ev_sound hs.s hx) hb
  have q6 := keyV_sound hkv (ev_sound hs.s hy)
  have q7 := VX.v_inv (ev_sound hs.s hv)
  obtain ⟨kl, hkl⟩ := Option.isSome_iff_exists.1 hk
  have hes : ∀ e ∈ es.toList, ∃ l, keyOf P k e.key = some l := fun e he => Option.isSome_iff_exists.1 (hl (e.key, e.val) (by rw [← q5]; exact List.mem_map.2 ⟨e, he, rfl⟩))
  have h1 : (Instr.findKey k key es.toList).run P w = .ok none w := by
    rcases K1.find w hkl es.toList hes with ⟨h1, h2⟩ | ⟨j, e0, h1, h2, h3⟩
    · exact h1
    · exact absurd h3 (hr (e0.key, e0.val) (by rw [← q5]; exact List.mem_map.2 ⟨e0, List.mem_of_getElem? h2, rfl⟩))
  let w' := ChangeMaps.setBlock w g (.map (es.push ⟨key, val, clock⟩) (clock + 1))
  have hrun : (execOp a.eval o).run P w = .ok .skip w' := by
    simp [execOp, ho, q3, q6, q7, Instr.mapUpdate, run_underlying hu, MapKept.run_getObj_map q4, K1.check w false hkl, h1, MapKept.run_setObj_map _ q4, Result.andThen, ChangeMaps.setBlock, w']
  have hrng : (mblk t l v).rng p = [.blk g] := by simp [Blk.rng, q2]
  have hlt := lt_of_heap q4
  have hfr : Fr w w' ((mblk t l v).rng p) := by
    refine ⟨rfl, rfl, rfl, by simp [w', ChangeMaps.setBlock], fun b hb hno => ?_, fun b arr T fr hb => ?_⟩
    · simp only [w', ChangeMaps.setBlock, Array.getElem?_setIfInBounds]
      rw [if_neg]
      rintro rfl
      exact hno 0 ⟨.blk g, by simp [hrng], rfl⟩
    · refine ⟨arr, ?_, rfl, fun _ _ => rfl⟩
      simp only [w', ChangeMaps.setBlock, Array.getElem?_setIfInBounds]
      rw [if_neg]
      · exact hb
      · rintro rfl
        rw [q4] at hb; cases hb
  have hR : HeapEq cx.R w w' := fun bb hbb => hfr.hblk bb (hs.m.rlt bb hbb) fun oo ⟨x, hx, hh⟩ => (hs.m.nor kk _ p q1 x hx bb oo hh).1 rfl hbb
  have hheap : w'.heap[g]? = some (.map (es.push ⟨key, val, clock⟩) (clock + 1)) := by
    simp [w', ChangeMaps.setBlock, hlt]
  have hok : BlkOk P cx w' p (mblk t (l ++ [(key, val)]) v) := .inr (.inr ⟨rfl, rfl, rfl, .inl (MapOk.put q2 hheap (by simp [q5]))⟩)
  have hm := hs.m.turn q1 rfl hfr (mblk t (l ++ [(key, val)]) v) p (.inl ⟨rfl, rfl⟩) cx.R (fun _ h => h) (fun bb h => .inl h) (by rw [show (mblk t (l ++ [(key, val)]) v).ver = (mblk t l v).ver from rfl, Cx.add_same q1.2]; exact hok) (by
    intro x hx bb oo hh
    have hx : x ∈ (mblk t l v).rng p := by rw [hrng]; simpa [Blk.rng, q2] using hx
    exact ⟨.inl ⟨x, hx, hh⟩, fun _ => (hs.m.nor kk _ p q1 x hx bb oo hh).1 rfl, fun h => by cases h⟩)
  rw [show ({ cx.add kk (mblk t (l ++ [(key, val)]) v).ver p with R := cx.R } : Cx) = cx from Cx.add_same q1.2] at hm
  unfold Oper.wp
  rw [hrun]
  show next (a.put o.dst undef) w'
  rw [hd]
  exact hn _ cx _ _ h2 ⟨hm, hs.s.mono (fun _ _ h => h) rfl (Cx.le_refl _) hR⟩

section
variable {ops : Array Oper} {rs : List Oper} {N d : Nat} {T : List (Nat × IV)} {L : List (Option Blk)}
theorem fin_to {v : IV} {L' : List (Option Blk)} (hd : o.dst = some d) (hdN : d < N) (h : K ⟨N, (d, v) :: T, L'⟩) : fin o ⟨N, T, L⟩ v L' K := by
  unfold fin
  rw [hd]
  exact ⟨hdN, h⟩
theorem IL.mnil {t k e t' : TypeId} {x : Operand} {kk ver : Nat} (hu : P.underlying t = some (.map k e)) (hr : IL P fx ops rs K ⟨N, (d, .v (.bool false)) :: T, L⟩) (hg : Gok ops ⟨N, T, L⟩ o := by exact .inl rfl) (ho : o.op = .binOp .eql t x (.const (.map none)) t' := by rfl) (hx : ev ⟨N, T, L⟩ x = some (.mp kk ver) := by rfl) (hd : o.dst = some d := by rfl) (hdN : d < N := by exact Nat.le_of_ble_eq_true rfl) : IL P fx ops (o :: rs) K ⟨N, T, L⟩ := IL.ok hg (IP.mnil ho hu hx (fin_to hd hdN hr))
theorem IL.mnil0 {t k e t' : TypeId} {x : Operand} (hu : P.underlying t = some (.map k e)) (hr : IL P fx ops rs K ⟨N, (d, .v (.bool true)) :: T, L⟩) (hg : Gok ops ⟨N, T, L⟩ o := by exact .inl rfl) (ho : o.op = .binOp .eql t x (.const (.map none)) t' := by rfl) (hx : ev ⟨N, T, L⟩ x = some (.v (.map none)) := by rfl) (hd : o.dst = some d := by rfl) (hdN : d < N := by exact Nat.le_of_ble_eq_true rfl) : IL P fx ops (o :: rs) K ⟨N, T, L⟩ := IL.ok hg (IP.mnil0 ho hu hx (fin_to hd hdN hr))
theorem IL.mmake {t : TypeId} (hr : IL P fx ops rs K ⟨N, (d, .mp L.length 0) :: T, L ++ [some (mblk t [] 0)]⟩) (hg : Gok ops ⟨N, T, L⟩ o := by exact .inl rfl) (ho : o.op = .makeMap t none := by rfl) (hd : o.dst = some d := by rfl) (hdN : d < N := by exact Nat.le_of_ble_eq_true rfl) : IL P fx ops (o :: rs) K ⟨N, T, L⟩ := IL.ok hg (IP.mmake ho (fin_to hd hdN hr))
end
section
variable {ops : List Oper} {X B lo hi : List Nat} {i N d : Nat} {rs : List Oper} {T : List (Nat × IV)} {Ls : List (List (Option Blk))} {L : List (Option Blk)}
theorem fin_at {T2 T3 : List (Nat × IV)} {u v : IV} (hd : o.dst = some d) (hdN : d < N) (hp : putT o.dst (some v) T2 = some T3) (he : u = v) : fin o ⟨N, T2, L⟩ u L (fun σ1 => σ1 = ⟨N, T3, L⟩) := by
  subst he
  unfold fin
  unfold putT at hp
  rw [hd] at hp ⊢
  simp at hp
  subst hp
  exact ⟨hdN, rfl⟩
theorem ev_slots {T2 : List (Nat × IV)} {x : Operand} {v : IV} (ha : ∀ t ∈ slotsOf ops o, ∀ x, lk T t = some x → lk T2 t = some x) (hm : x ∈ opds o.op) (h : ev ⟨N, T, L⟩ x = some v) : ev ⟨N, T2, L⟩ x = some v := kn_of_slots (N := N) (L := L) (L2 := L) ha x hm v h
theorem DW.mlook {t k e : TypeId} {x y : Operand} {kk ver v : Nat} {kv : IV} {key z : Value} {l : List (Value × Value)} {r : Option Value} (K1 : Keyed P k) (hu : P.underlying t = some (.map k e)) (hz : ∀ w, (zeroValue e).run P w = .ok z w)
    (hk : (keyOf P k key).isSome = true) (hl : ∀ e ∈ l, (keyOf P k e.1).isSome = true) (hr : ∀ r', mget l key r' → r' = r) (hrest : DW P fx ops X B lo hi (i + 1) rs N ((d, .tup [.v (r.getD z), .v (.bool r.isSome)]) :: T) Ls K)
    (hb : B.contains i = false := by rfl) (hlh : lo.getD i 0 = hi.getD i 0 := by decide) (hL : Ls[Ls.length - 1 - lo.getD i 0]? = some L := by rfl) (hg : Gok ops.toArray ⟨N, T, L⟩ o := by exact .inl rfl) (ho : o.op = .lookup t x y true := by rfl) (hd : o.dst = some d := by rfl) (hdN : d < N := by exact Nat.le_of_ble_eq_true rfl)
    (hx : ev ⟨N, T, L⟩ x = some (.mp kk ver) := by rfl) (hy : ev ⟨N, T, L⟩ y = some kv := by rfl) (hkv : keyV kv = some key := by rfl) (hbl : blkAt L kk ver = some (mblk t l v) := by rfl) : DW P fx ops X B lo hi i (o :: rs) N T Ls K := by
  refine ⟨T, .tup [.v (r.getD z), .v (.bool r.isSome)], _, fun _ => rfl, by rw [hd]; rfl, ?_⟩
  rw [if_neg (by rw [hb]; simp)]
  refine ⟨fun L2 _ hL2 T2 ha T3 hp2 => ?_, hrest⟩
  have hL2 := hL2 hlh
  rw [List.getD_eq_getElem?_getD, hL] at hL2
  obtain rfl : L2 = L := hL2
  exact IG.ok (hg.slots ha) (IP.mlook K1 ho hu hz (ev_slots ha (by simp [ho, opds]) hx) (ev_slots ha (by simp [ho, opds]) hy) hkv hbl hk hl hr (fin_at hd hdN hp2 rfl))
theorem DW.mlookN {t k e : TypeId} {x y : Operand} {kk ver v : Nat} {kv : IV} {key z : Value} {l : List (Value × Value)} (K1 : Keyed P k) (hu : P.underlying t = some (.map k e)) (hz : ∀ w, (zeroValue e).run P w = .ok z w)
    (hk : (keyOf P k key).isSome = true) (hl : ∀ e ∈ l, (keyOf P k e.1).isSome = true) (hr : ∀ r', mget l key r' → r' = none) (hrest : DW P fx ops X B lo hi (i + 1) rs N ((d, .tup [.v z, .v (.bool false)]) :: T) Ls K)
    (hb : B.contains i = false := by rfl) (hlh : lo.getD i 0 = hi.getD i 0 := by decide) (hL : Ls[Ls.length - 1 - lo.getD i 0]? = some L := by rfl) (hg : Gok ops.toArray ⟨N, T, L⟩ o := by exact .inl rfl) (ho : o.op = .lookup t x y true := by rfl) (hd : o.dst = some d := by rfl) (hdN : d < N := by exact Nat.le_of_ble_eq_true rfl)
    (hx : ev ⟨N, T, L⟩ x = some (.mp kk ver) := by rfl) (hy : ev ⟨N, T, L⟩ y = some kv := by rfl) (hkv : keyV kv = some key := by rfl) (hbl : blkAt L kk ver = some (mblk t l v) := by rfl) : DW P fx ops X B lo hi i (o :: rs) N T Ls K :=
  DW.mlook (r := none) K1 hu hz hk hl hr hrest hb hlh hL hg ho hd hdN hx hy hkv hbl
theorem DW.mlookS {t k e : TypeId} {x y : Operand} {kk ver v : Nat} {kv : IV} {key z u : Value} {l : List (Value × Value)} (K1 : Keyed P k) (hu : P.underlying t = some (.map k e)) (hz : ∀ w, (zeroValue e).run P w = .ok z w)
    (hk : (keyOf P k key).isSome = true) (hl : ∀ e ∈ l, (keyOf P k e.1).isSome = true) (hr : ∀ r', mget l key r' → r' = some u) (hrest : DW P fx ops X B lo hi (i + 1) rs N ((d, .tup [.v u, .v (.bool true)]) :: T) Ls K)
    (hb : B.contains i = false := by rfl) (hlh : lo.getD i 0 = hi.getD i 0 := by decide) (hL : Ls[Ls.length - 1 - lo.getD i 0]? = some L := by rfl) (hg : Gok ops.toArray ⟨N, T, L⟩ o := by exact .inl rfl) (ho : o.op = .lookup t x y true := by rfl) (hd : o.dst = some d := by rfl) (hdN : d < N := by exact Nat.le_of_ble_eq_true rfl)
    (hx : ev ⟨N, T, L⟩ x = some (.mp kk ver) := by rfl) (hy : ev ⟨N, T, L⟩ y = some kv := by rfl) (hkv : keyV kv = some key := by rfl) (hbl : blkAt L kk ver = some (mblk t l v) := by rfl) : DW P fx ops X B lo hi i (o :: rs) N T Ls K :=
  DW.mlook (r := (some u)) K1 hu hz hk hl hr hrest hb hlh hL hg ho hd hdN hx hy hkv hbl
theorem DW.mput {t k e : TypeId} {x y u : Operand} {kk ver v : Nat} {kv : IV} {key val : Value} {l : List (Value × Value)} (K1 : Keyed P k) (hu : P.underlying t = some (.map k e))
    (hk : (keyOf P k key).isSome = true) (hl : ∀ e ∈ l, (keyOf P k e.1).isSome = true) (hr : ∀ e ∈ l, e.1 ≠ key) (hrest : DW P fx ops X B lo hi (i + 1) rs N T (L.set kk (some (mblk t (l ++ [(key, val)]) v)) :: L :: Ls) K)
    (hb : B.contains i = true := by rfl) (hg : Gok ops.toArray ⟨N, T, L⟩ o := by exact .inl rfl) (ho : o.op = .mapUpdate t x y u := by rfl) (hd : o.dst = none := by rfl)
    (hx : ev ⟨N, T, L⟩ x = some (.mp kk ver) := by rfl) (hy : ev ⟨N, T, L⟩ y = some kv := by rfl) (hkv : keyV kv = some key := by rfl) (hv : ev ⟨N, T, L⟩ u = some (.v val) := by rfl) (hbl : blkAt L kk ver = some (mblk t l v) := by rfl)
    (hs : strad lo hi ops.length Ls.length = false ∨ LEX X L (L.set kk (some (mblk t (l ++ [(key, val)]) v))) := by first | exact .inl rfl | exact .inl (by decide)) : DW P fx ops X B lo hi i (o :: rs) N T (L :: Ls) K := by
  refine ⟨T, default, T, fun _ => rfl, by rw [hd]; rfl, ?_⟩
  rw [if_pos hb]
  refine ⟨_, fun T2 ha T3 hp2 => ?_, hs, hrest⟩
  have e : T3 = T2 := by unfold putT at hp2; rw [hd] at hp2; simp at hp2; exact hp2.symm
  subst e
  exact IG.ok (hg.slots ha) (IP.mput K1 ho hu (ev_slots ha (by simp [ho, opds]) hx) (ev_slots ha (by simp [ho, opds]) hy) hkv (ev_slots ha (by simp [ho, opds]) hv) hbl hk hl hr hd rfl)
end
end
end Go.Lift
/- A constant text's bytes: a literal's row, and the conversion behind it. -/
namespace Go.Lift
open Go Go.RowKit

section
variable {P : Program} {TT : TTab} {fx : Fx}
theorem put_eval (a : Act) (d : Nat) (v : Value) (h : d < a.tmps.size) : (a.put (some d) v).eval (.tmp d) = v := by
  simp [Act.put, Act.eval, h]
theorem IL.bytesConst (htt : TTok P TT) {ops : Array Oper} {l : List Oper} {K : St → Prop} {σ : St} {o1 o2 : Oper} {t e : TypeId} {d1 d2 len : Nat} {ps : Array (Nat × Operand)} {i ie : TI} {cs : List IV}
    (hg1 : o1.guard = none) (hg2 : o2.guard = none) (ho1 : o1.op = .buildSlice t len ps) (hd1 : o1.dst = some d1) (ho2 : o2.op = .convert t t (.tmp d1)) (hd2 : o2.dst = some d2)
    (h1 : TT t = some i) (hd : i.desc = .slice e) (he : TT e = some ie) (hnum : ie.num = some .u8) (hc : litCells ie.size 0 ps.toList σ = some cs) (hl1 : len ≤ 1000) (hl2 : ie.size ≤ 1000) (hps : ps.size = len) (htr : cs.all isTree = true) (hN1 : d1 < σ.N) (hN2 : d2 < σ.N)
    (hr : IL P fx ops l K ⟨σ.N, (d2, .tr len cs) :: (d1, .tr len cs) :: σ.T, σ.L⟩) : IL P fx ops (o1 :: o2 :: l) K σ := by
  intro cx a w QQ hs hn
  have hu := slice_under (htt _ _ h1) hd
  have hie := htt _ _ he
  obtain ⟨j, hj, hj2, hj3, z, hz1, hz2⟩ := hie.info
  have hzl : z.cells.size = ie.size := by have := hz2.length; rw [hie.zlen] at this; simpa using this
  let init : Array Value := (Array.range (len * ie.size)).map (z.cells[· % z.cells.size]!)
  obtain ⟨arr, us, u1, u2, u3, u4, u5⟩ := fill_lit (a := a) (cells := init) hs.s hc (by simp [init, hps])
  have harr : arr.toList = us := by
    rw [u2]
    have e1 : (0 + ps.toList.length) * ie.size = init.toList.length := by simp [init, hps]
    rw [e1]; simp
  have hrun : (Instr.buildSlice t len (ps.map fun (i, x) => (i, a.eval x))).run P w = .ok (.slice (some ⟨w.heap.size, 0, none⟩) len len) (w.alloc (.cells arr e)) := by
    have hlim : len * ie.size ≤ 16777216 := by
      have := Nat.mul_le_mul hl1 hl2
      omega
    have hmap : (ps.map fun (i, x) => (i, a.eval x)).toList = ps.toList.map fun p => (p.1, a.eval p.2) := by
      rw [Array.toList_map]
    unfold Instr.buildSlice
    simp only [Sem.run_bind, run_underlying hu, Result.andThen_ok, sizeOf_run hie]
    rw [if_neg (by simp; omega)]
    by_cases hz : len * ie.size = 0
    · simp only [hz, if_true, Sem.run_pure, Result.andThen_ok, Sem.run_bind]
      have : init = (Array.range 0).map ((#[] : Array Value)[· % (#[] : Array Value).size]!) := by simp [init, hz]
      rw [hmap, ← this, u1]
      simp [newRow]
    · simp only [hz, if_false, Sem.run_bind, run_zeroValue hj hz1, Result.andThen_ok, Sem.run_pure]
      rw [hmap]
      show ((match Instr.fill (fun i => some (i * ie.size, ie.size)) init (ps.toList.map fun p => (p.1, a.eval p.2)) with | some cells => _ | _ => _) : Sem Value).run P w = _
      rw [u1]
      simp [newRow]
  have hx : TRl cx.R w cs arr.toList := by
    rw [harr]
    exact TRl_of_tree u3 htr
  have hu8 : P.underlying e = some (.int .u8) := hie.num _ hnum
  let v : Value := .slice (some ⟨w.heap.size, 0, none⟩) len len
  have hrun1 : (execOp a.eval o1).run P w = .ok (.value v) (w.alloc (.cells arr e)) := by simp [execOp, ho1, hrun, v]
  refine wpList_plain hg1 fun K1 hK1 => ?_
  unfold Oper.wp
  rw [hrun1]
  show K1 (a.put o1.dst v) (w.alloc (.cells arr e))
  refine hK1 _ _ ?_
  refine wpList_plain hg2 fun K2 hK2 => ?_
  have hev : (a.put o1.dst v).eval (.tmp d1) = v := by rw [hd1]; exact put_eval a d1 v (by rw [hs.s.len]; exact hN1)
  have hrun2 : (execOp (a.put o1.dst v).eval o2).run P (w.alloc (.cells arr e)) = .ok (.value v) (w.alloc (.cells arr e (arr.size, arr.size + 1))) := by
    simp [execOp, ho2, hev, v, Lib.run_convert_bytes_const w t e arr len len hu hu8]
  unfold Oper.wp
  rw [hrun2]
  show K2 ((a.put o1.dst v).put o2.dst v) _
  refine hK2 _ _ ?_
  let w' := w.alloc (.cells arr e (arr.size, arr.size + 1))
  have hf : Fr w w' [] := Fr.alloc_nil w (.cells arr e (arr.size, arr.size + 1))
  have hm := hs.m.grow hf (fun bb => cx.R bb ∨ bb = w.heap.size) (fun _ h => .inl h) (fun bb h => h.imp (fun h => h) (fun h => ⟨by omega, by subst h; show w.heap.size < (w.heap.push _).size; simp⟩))
  have hv : VX { cx with R := fun bb => cx.R bb ∨ bb = w.heap.size } w' (.tr len cs) v := by
    unfold VX TR
    refine ⟨_, _, rfl, Nat.le_refl _, .inr ⟨w.heap.size, 0, rfl, .inr rfl, TRm.of_get fun i x hx' => ?_⟩⟩
    obtain ⟨y, g1, g2, g3⟩ := hx.get i x hx'
    have hh : w'.heap[w.heap.size]? = some (.cells arr e (arr.size, arr.size + 1)) := heap_alloc_at w _
    refine ⟨y, ?_, TR.mono (fun _ h => .inl h) (hs.m.heapEq hf) _ _ g2, g3⟩
    rw [Nat.zero_add, cell_of_row w' w.heap.size i _ e _ hh]
    simpa using g1
  have ht1 := (hs.s.mono (σ' := σ) (fun _ _ h => h) rfl (cx' := { cx with R := fun bb => cx.R bb ∨ bb = w.heap.size }) ⟨fun _ _ _ h => h, fun _ h => .inl h⟩ (hs.m.heapEq hf)).put d1 hN1 (.tr len cs) v hv
  have ht2 := ht1.put d2 hN2 (.tr len cs) v hv
  rw [hd1, hd2]
  exact hr _ _ _ QQ ⟨hm.sameL rfl, ht2⟩ hn
end
end Go.Lift
