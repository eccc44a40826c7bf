/- Calls in short; what the walk rewrites by. -/
import Derived.Test.YthekbbgpmiogdaaLY3
import Derived.Test.YthekbbgpmiogdaaLZ7
namespace Go.Lift
open Go Go.RowKit

/-- a call of one of the program's functions: which, and with what -/
def isCall (σ : St) (o : Oper) : Option (FuncId × List IV) :=
  match o.op with
  | .call c => match c.callee with
    | .value fo => match ev σ fo, evs σ c.args.toList with
      | some (.fn (.func f) caps), some xs => some (f, xs ++ caps)
      | _, _ => none
    | _ => none
  | _ => none
theorem isCall_inv {σ : St} {o : Oper} {f : FuncId} {ys : List IV} (h : isCall σ o = some (f, ys)) : ∃ c fo caps xs, o.op = .call c ∧ c.callee = .value fo ∧ ev σ fo = some (.fn (.func f) caps) ∧ evs σ c.args.toList = some xs ∧ ys = xs ++ caps := by
  unfold isCall at h
  split at h
  · rename_i c hc
    split at h
    · rename_i fo hfo
      split at h
      · rename_i f' caps xs h1 h2
        cases h
        exact ⟨c, fo, caps, xs, hc, hfo, h1, h2, rfl⟩
      · cases h
    · cases h
  · cases h
def nodupB : List Nat → List Nat → Bool
  | [], _ => true
  | k :: ks, bs => !ks.contains k && (!bs.contains k && nodupB ks bs)
theorem nodupB_spec : ∀ {ks bs : List Nat}, nodupB ks bs = true → ks.Nodup ∧ ∀ k ∈ ks, k ∉ bs
  | [], bs, _ => by simp
  | k :: ks, bs, h => by
    simp only [nodupB, Bool.and_eq_true, Bool.not_eq_true', List.contains_eq_mem, decide_eq_false_iff_not] at h
    obtain ⟨h1, h2, h3⟩ := h
    obtain ⟨g1, g2⟩ := nodupB_spec h3
    exact ⟨List.nodup_cons.2 ⟨h1, g1⟩, by simp; exact ⟨h2, g2⟩⟩
section
variable {P : Program} {TT : TTab} {fx : Fx} {i N : Nat} {o : Oper} {r : List Oper} {K : St → Prop}
theorem IL.callS (htt : TTok P TT) {f : FuncId} (hen : Ent P f) (ms : List Md) (keep : Bool) {ops : Array Oper} {xs A A' : List IV} {rr : IV} {σ σ' : St} {bs ks : List Nat} {sets : List (Nat × Blk)} {pushes : List Blk}
    (hg : Gok ops σ o) (hc : isCall σ o = some (f, xs)) (hA : exA σ.L TT ms xs = some (A, bs, ks)) (hS : SCall P f A rr A') (hnd : nodupB ks bs = true) (hok : okI rr = true) (hkr : (!keep || noTr rr) = true)
    (hi : impA keep σ.L (σ.L.length + (imp σ.L.length rr).2.length) ms xs A' = some (sets, pushes)) (hsub : ∀ s ∈ sets, s.1 ∈ ks)
    (hK : ∀ K : St → Prop, K σ' → fin o σ (imp σ.L.length rr).1 (setL (clearL (if keep = true then σ.L else frzL σ.L bs) ks) sets ++ ((imp σ.L.length rr).2 ++ pushes).map some) K) (hr : IL P fx ops r K σ') : IL P fx ops (o :: r) K σ := by
  obtain ⟨c, fo, caps, xs', h1, h2, h3, h4, rfl⟩ := isCall_inv hc
  exact IL.call htt ms keep hg h1 h2 h3 hen h4 hA (nodupB_spec hnd).1 (nodupB_spec hnd).2 hS hok hkr hi hsub hK hr
theorem DW.callS (htt : TTok P TT) {f : FuncId} (hen : Ent P f) (ms : List Md) (keep : Bool) {ops : List Oper} {X B lo hi : List Nat} {T T' : List (Nat × IV)} {L L' : List (Option Blk)} {Ls : List (List (Option Blk))} {xs A A' : List IV} {rr : IV} {bs ks : List Nat} {sets : List (Nat × Blk)} {pushes : List Blk}
    (hb : B.contains i = true) (hg : Gok ops.toArray ⟨N, T, L⟩ o) (hc : isCall ⟨N, T, L⟩ o = some (f, xs)) (hA : exA L TT ms xs = some (A, bs, ks)) (hS : SCall P f A rr A') (hnd : nodupB ks bs = true) (hok : okI rr = true) (hkr : (!keep || noTr rr) = true)
    (hi' : impA keep L (L.length + (imp L.length rr).2.length) ms xs A' = some (sets, pushes)) (hsub : ∀ s ∈ sets, s.1 ∈ ks)
    (hK : ∀ K : St → Prop, K ⟨N, T', L'⟩ → fin o ⟨N, T, L⟩ (imp L.length rr).1 (setL (clearL (if keep = true then L else frzL L bs) ks) sets ++ ((imp L.length rr).2 ++ pushes).map some) K)
    (hp : putOk o.dst T T') (hs : strad lo hi ops.length Ls.length = false ∨ LEX X L L') (hrest : DW P fx ops X B lo hi (i + 1) r N T' (L' :: L :: Ls) K) : DW P fx ops X B lo hi i (o :: r) N T (L :: Ls) K := by
  obtain ⟨c, fo, caps, xs', h1, h2, h3, h4, rfl⟩ := isCall_inv hc
  exact DW.call htt ms keep hb hg h1 h2 h3 hen h4 hA (nodupB_spec hnd).1 (nodupB_spec hnd).2 hS hok hkr hi' hsub hK hp hs hrest
/-- slots and blocks forgotten at the end of a region -/
theorem WK.cut {P : Program} {fx : Fx} {c : Code} {N : St → Prop} {Q : Exit → St → Prop} {σ : St} (T' : List (Nat × IV)) (h : AllT (lk σ.T) T') (h' : WK P fx c N Q ⟨σ.N, T', σ.L⟩) : WK P fx c N Q σ := WK.weak (Weak.cut h) h'
end
theorem wrap_i64 {n : Int} (h1 : -9223372036854775808 ≤ n) (h2 : n ≤ 9223372036854775807) : IntKind.i64.wrap n = n := IntWalk.i64_in n (by omega)
theorem wrap_u64 {n : Int} (h1 : 0 ≤ n) (h2 : n ≤ 18446744073709551615) : IntKind.u64.wrap n = n := IntWalk.u64_in n (by omega)
theorem wrap_u32 {n : Int} (h1 : 0 ≤ n) (h2 : n ≤ 4294967295) : IntKind.u32.wrap n = n := IntWalk.u32_in n (by omega)
theorem wrap_u16 {n : Int} (h1 : 0 ≤ n) (h2 : n ≤ 65535) : IntKind.u16.wrap n = n := IntWalk.u16_in n (by omega)
theorem wrap_u8 {n : Int} (h1 : 0 ≤ n) (h2 : n ≤ 255) : IntKind.u8.wrap n = n := IntWalk.u8_in n (by omega)
attribute [go_sem] stepOp ob_some ev lk if_true if_false cellsOf isCell rowObj Option.map_some fin true_and List.length_nil List.nil_append List.append_nil zeroObj List.length_cons List.cons_append
  fieldOf blkAt loadIV List.getElem?_cons_zero List.getElem?_cons_succ pbin pun pboolEq objBlk nilRow List.set_cons_zero List.set_cons_succ putAt evs List.map_cons List.map_nil List.zip_cons_cons List.zip_nil_left fillIV ZC.iv Nat.zero_add Nat.add_zero List.take_succ_cons List.take_zero List.drop_zero List.drop_succ_cons
  List.all_cons List.all_nil Option.isSome_some Bool.and_self and_self ofV ofS stepBuiltin TD.isSlice TD.isStr TD.isBool appendTo srcOf litCells bnd partIV aggEq isTree isV List.getElem?_toArray List.size_toArray Value.oneCell' eqCells and_true Nat.mul_one Nat.one_mul Nat.zero_mul Option.some.injEq decide_true decide_false Bool.false_eq_true Bool.true_and Bool.and_true maxLen
  bcells_length bcells_isV bcells_isTree bcells_take bcells_append bcells_cut bytes_bcells take_length_self forall_const isScalar Nat.le_refl Int.toNat_natCast false_imp_iff true_imp_iff Nat.sub_zero ne_eq isInt skipOp
  exA exT exTl exO exS mapO imp impl impA setL clearL frzL noTr noTrl idFree okIl okI isGone leLX maskL List.contains_nil List.contains_cons noTr_bcells List.foldl_nil List.foldl_cons resX resIV outA cut leL gval Option.bind_some bne_self_eq_false beq_self_eq_true Bool.not_true Bool.not_false Bool.false_or Bool.true_or Bool.or_false Bool.or_true
end Go.Lift
namespace Go.Lift
open Go Go.RowKit
section
variable {P : Program} {TT : TTab} {fx : Fx} {i N : Nat} {o : Oper} {r : List Oper} {K : St → Prop} {L : List (Option Blk)} {T : List (Nat × IV)} {Ls : List (List (Option Blk))}
/-- an answer, told apart where it is reckoned -/
theorem IL.dec {opa : Array Oper} {d : Nat} {p : Prop} [h : Decidable p] {l : List Oper} (h1 : p → IL P fx opa l K ⟨N, (d, .v (.bool true)) :: T, L⟩) (h2 : ¬ p → IL P fx opa l K ⟨N, (d, .v (.bool false)) :: T, L⟩) : IL P fx opa l K ⟨N, (d, .v (.bool (decide p))) :: T, L⟩ := by
  by_cases hp : p
  · rw [decide_eq_true hp]; exact h1 hp
  · rw [decide_eq_false hp]; exact h2 hp
theorem DW.dec {ops : List Oper} {X B lo hi : List Nat} {d : Nat} {p : Prop} [h : Decidable p] {l : List Oper} (h1 : p → DW P fx ops X B lo hi i l N ((d, .v (.bool true)) :: T) Ls K) (h2 : ¬ p → DW P fx ops X B lo hi i l N ((d, .v (.bool false)) :: T) Ls K) : DW P fx ops X B lo hi i l N ((d, .v (.bool (decide p))) :: T) Ls K := by
  by_cases hp : p
  · rw [decide_eq_true hp]; exact h1 hp
  · rw [decide_eq_false hp]; exact h2 hp
theorem IL.eqi {opa : Array Oper} {d : Nat} {a b : Int} {l : List Oper} (h1 : a = b → IL P fx opa l K ⟨N, (d, .v (.bool true)) :: T, L⟩) (h2 : ¬ a = b → IL P fx opa l K ⟨N, (d, .v (.bool false)) :: T, L⟩) : IL P fx opa l K ⟨N, (d, .v (.bool (a == b))) :: T, L⟩ := by
  by_cases hp : a = b
  · rw [beq_iff_eq.2 hp]; exact h1 hp
  · rw [beq_eq_false_iff_ne.2 hp]; exact h2 hp
theorem DW.eqi {ops : List Oper} {X B lo hi : List Nat} {d : Nat} {a b : Int} {l : List Oper} (h1 : a = b → DW P fx ops X B lo hi i l N ((d, .v (.bool true)) :: T) Ls K) (h2 : ¬ a = b → DW P fx ops X B lo hi i l N ((d, .v (.bool false)) :: T) Ls K) : DW P fx ops X B lo hi i l N ((d, .v (.bool (a == b))) :: T) Ls K := by
  by_cases hp : a = b
  · rw [beq_iff_eq.2 hp]; exact h1 hp
  · rw [beq_eq_false_iff_ne.2 hp]; exact h2 hp
theorem IL.nei {opa : Array Oper} {d : Nat} {a b : Int} {l : List Oper} (h1 : a = b → IL P fx opa l K ⟨N, (d, .v (.bool false)) :: T, L⟩) (h2 : ¬ a = b → IL P fx opa l K ⟨N, (d, .v (.bool true)) :: T, L⟩) : IL P fx opa l K ⟨N, (d, .v (.bool (a != b))) :: T, L⟩ := by
  by_cases hp : a = b
  · rw [bne_eq_false_iff_eq.2 hp]; exact h1 hp
  · rw [bne_iff_ne.2 hp]; exact h2 hp
theorem DW.nei {ops : List Oper} {X B lo hi : List Nat} {d : Nat} {a b : Int} {l : List Oper} (h1 : a = b → DW P fx ops X B lo hi i l N ((d, .v (.bool false)) :: T) Ls K) (h2 : ¬ a = b → DW P fx ops X B lo hi i l N ((d, .v (.bool true)) :: T) Ls K) : DW P fx ops X B lo hi i l N ((d, .v (.bool (a != b))) :: T) Ls K := by
  by_cases hp : a = b
  · rw [bne_eq_false_iff_eq.2 hp]; exact h1 hp
  · rw [bne_iff_ne.2 hp]; exact h2 hp
/-- any answer -/
theorem IL.ans {opa : Array Oper} {d : Nat} {e : Bool} {l : List Oper} (h1 : e = true → IL P fx opa l K ⟨N, (d, .v (.bool true)) :: T, L⟩) (h2 : e = false → IL P fx opa l K ⟨N, (d, .v (.bool false)) :: T, L⟩) : IL P fx opa l K ⟨N, (d, .v (.bool e)) :: T, L⟩ := by
  cases e
  · exact h2 rfl
  · exact h1 rfl
theorem DW.ans {ops : List Oper} {X B lo hi : List Nat} {d : Nat} {e : Bool} {l : List Oper} (h1 : e = true → DW P fx ops X B lo hi i l N ((d, .v (.bool true)) :: T) Ls K) (h2 : e = false → DW P fx ops X B lo hi i l N ((d, .v (.bool false)) :: T) Ls K) : DW P fx ops X B lo hi i l N ((d, .v (.bool e)) :: T) Ls K := by
  cases e
  · exact h2 rfl
  · exact h1 rfl
theorem Gok.mk2 {opa : Array Oper} {σ : St} {j : Nat} {w b : Bool} (hg : o.guard = some (j, w)) (hv : gval opa σ j = some (.v (.bool b))) (hb : b = w) : Gok opa σ o := .inr ⟨j, w, hg, by rw [hv, hb]⟩
theorem Gno.mkT {opa : Array Oper} {σ : St} {j : Nat} {b : Bool} (hg : o.guard = some (j, true)) (hv : gval opa σ j = some (.v (.bool b))) (hb : b = false) : Gno opa σ o := ⟨j, true, hg, .inl (by rw [hv, hb]; rfl)⟩
theorem Gno.mkF {opa : Array Oper} {σ : St} {j : Nat} {b : Bool} (hg : o.guard = some (j, false)) (hv : gval opa σ j = some (.v (.bool b))) (hb : b = true) : Gno opa σ o := ⟨j, false, hg, .inl (by rw [hv, hb]; rfl)⟩
theorem Gno.mkU {opa : Array Oper} {σ : St} {j : Nat} {w : Bool} (hg : o.guard = some (j, w)) (hv : gval opa σ j = some (.v (.tuple #[]))) : Gno opa σ o := ⟨j, w, hg, .inr hv⟩
/-- a number that lies within its kind -/
theorem IL.wr {opa : Array Oper} {d : Nat} {k k' : IntKind} {n : Int} {l : List Oper} (h : k.wrap n = n) (h1 : IL P fx opa l K ⟨N, (d, .v (.int k' n)) :: T, L⟩) : IL P fx opa l K ⟨N, (d, .v (.int k' (k.wrap n))) :: T, L⟩ := by rw [h]; exact h1
theorem DW.wr {ops : List Oper} {X B lo hi : List Nat} {d : Nat} {k k' : IntKind} {n : Int} {l : List Oper} (h : k.wrap n = n) (h1 : DW P fx ops X B lo hi i l N ((d, .v (.int k' n)) :: T) Ls K) : DW P fx ops X B lo hi i l N ((d, .v (.int k' (k.wrap n))) :: T) Ls K := by rw [h]; exact h1
/-- a body's end -/
theorem Fin.of {fn : Func} {kp : Nat → Bool} {gs : List Bool} {A A' A2 : List IV} {q q' : IV} {σ : St} {k1 k2 : List Nat} (h1 : resX fn TT σ = some (q', k1)) (h2 : outA kp σ.L gs (impl 0 A).1 A = some (A2, k2)) (h3 : nodupB (k1 ++ k2) [] = true) (h4 : q' = q) (h5 : A2 = A') : Fin fn TT kp gs A q A' σ :=
  ⟨k1, k2, by rw [h1, h4], by rw [h2, h5], (nodupB_spec h3).1⟩
end
end Go.Lift
