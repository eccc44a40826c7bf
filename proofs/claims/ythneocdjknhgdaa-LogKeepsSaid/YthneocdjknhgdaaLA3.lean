import Derived.SizedLaws
import Derived.WideShapes
import Derived.ProofKit
import Derived.IntWalk
import Derived.DataShut
import Derived.Laws.MakeOwn
import Derived.Laws.Strings2
import Derived.Below
import Derived.Sort.Grow
import Derived.Lib.LaidTab
import Derived.Deep.Draws
import Derived.Laws.ComplexArith
import Derived.Lib.SliceRun
import Derived.Maps.Keyed
import Derived.WalkSpells
import Derived.Lib.SlBytesConst
import Derived.Test.YthneocdjknhgdaaLA2
set_option linter.unusedVariables false
set_option linter.unusedSimpArgs false
/- A law: from its function's contract to its row. -/
namespace Go.Lift
open Go Go.RowKit Go.ChangeShapes Go.WideShapes

structure Par where
  agg : Bool
  ss : List Sh
def argIV : Bool → List IV → IV
  | true, xs => .agg xs
  | false, x :: _ => x
  | false, [] => .gone
def TyA : List Par → List IV → Prop
  | [], A => A = []
  | p :: ps, A => ∃ xs B, A = argIV p.agg xs :: B ∧ Tyl p.ss xs ∧ TyA ps B
def isSc : TypeDesc → Bool
  | .int _ => true
  | .bool => true
  | .string => true
  | .slice _ => true
  | _ => false
inductive ShA (P : Program) : List TypeId → List Par → Prop
  | nil : ShA P [] []
  | one {t : TypeId} {ts : List TypeId} {s : Sh} {ps : List Par} {d : TypeDesc} (hd : P.underlying t = some d) (hs : isSc d = true) (h : ShT P t [s]) (hr : ShA P ts ps) : ShA P (t :: ts) (⟨false, [s]⟩ :: ps)
  | agg {t : TypeId} {ts : List TypeId} {ss : List Sh} {ps : List Par} {fs : Array Field} (hd : P.underlying t = some (.struct fs)) (h : ShT P t ss) (hr : ShA P ts ps) : ShA P (t :: ts) (⟨true, ss⟩ :: ps)

section
variable {P : Program} {H : Type} {enc : TypeId × Value → H} {w : World} {base : Nat} {spare : Nat → Bool} {held : Bool}

theorem okWide_sc {r : Reach} {b : Nat} {t : TypeId} {d : TypeDesc} {v : Value} (hd : P.underlying t = some d) (hs : isSc d = true) (h : Value.okWide P w r b t v) : v.cells.toList = [v] := by
  cases d <;> simp [isSc] at hs
  · cases v <;> simp_all [Value.okWide, Cell.okWide, Cell.ok, Value.cells]
  · cases v <;> simp_all [Value.okWide, Cell.okWide, Cell.ok, Value.cells]
  · cases v <;> simp_all [Value.okWide, Cell.okWide, Cell.ok, Value.cells]
  · cases v <;> simp_all [Value.okWide, Cell.okWide, Cell.ok, Value.cells]
theorem trodAll_ty {r : Reach} {b : Nat} : ∀ {ts : List TypeId} {ps : List Par} {vs : List Value} {ds : List (DataW H)} {q : List MemPlace}, ShA P ts ps → DataW.TrodAll enc P w base spare held ts vs ds q →
    (∀ (j : Nat) t v, ts[j]? = some t → vs[j]? = some v → Value.okWide P w r b t v) → ∃ A : List IV, TyA ps A ∧ BRl P (Rb w) w A vs []
  | [], ps, vs, ds, q, hsh, h, _ => by
    cases hsh
    cases vs <;> cases ds <;> simp [DataW.TrodAll] at h
    exact ⟨[], by simp [TyA], by simp [BRl]⟩
  | t :: ts, ps, vs, ds, q, hsh, h, hok => by
    obtain ⟨v, vs', d, ds', p1, p2, rfl, rfl, rfl, h1, h2⟩ := trodAll_cons h
    obtain ⟨fuel, h1⟩ := h1
    have hv := hok 0 t v rfl rfl
    cases hsh with
    | one hd hs hT hr =>
      obtain ⟨A, a1, a2⟩ := trodAll_ty hr h2 fun j t v ht hv => hok (j + 1) t v (by simpa using ht) (by simpa using hv)
      obtain ⟨xs, e1, e2⟩ := trod_ty fuel t _ _ _ hT h1
      rw [okWide_sc hd hs hv] at e2
      have hl := e1.length
      match xs, hl with
      | [x], _ =>
        unfold TRl at e2
        obtain ⟨y, ys, ey, ⟨e2, _⟩, _⟩ := e2
        cases ey
        refine ⟨x :: A, by unfold TyA; exact ⟨[x], A, rfl, e1, a1⟩, ?_⟩
        unfold BRl
        have hf : idFree x = true := by
          cases x <;> simp [TR] at e2 <;> rfl
        exact ⟨v, vs', [], [], rfl, BR_of_TR hf e2, a2, rfl⟩
    | agg hd hT hr =>
      obtain ⟨A, a1, a2⟩ := trodAll_ty hr h2 fun j t v ht hv => hok (j + 1) t v (by simpa using ht) (by simpa using hv)
      obtain ⟨xs, e1, e2⟩ := trod_ty fuel t _ _ _ hT h1
      simp only [Value.okWide, hd] at hv
      obtain ⟨cs, rfl, _⟩ := hv
      refine ⟨.agg xs :: A, by unfold TyA; exact ⟨xs, A, rfl, e1, a1⟩, ?_⟩
      unfold BRl
      exact ⟨.agg cs, vs', [], [], rfl, BR_of_TR rfl (by unfold TR; exact ⟨cs, rfl, by simpa [Value.cells] using e2⟩), a2, rfl⟩
theorem trodAll_below (hl : laidOutB P = true) {w' : World} (hb : Below w.heap.size w w') : ∀ {ts : List TypeId} {vs : List Value} {ds : List (DataW H)} {q : List MemPlace}, (∀ t ∈ ts, P.readableRec t = true ∧ t < P.types.size) → DataW.TrodAll enc P w 0 (fun _ => true) true ts vs ds q →
    DataW.TrodAll enc P w' 0 (fun b => decide (b < w.heap.size)) true ts vs ds q
  | [], vs, ds, q, _, h => by
    cases vs <;> cases ds <;> simp [DataW.TrodAll] at h
    subst h; rfl
  | t :: ts, vs, ds, q, hr, h => by
    obtain ⟨v, vs', d, ds', p1, p2, rfl, rfl, rfl, h1, h2⟩ := trodAll_cons h
    have hlt : ∀ x ∈ p1, x.block < w.heap.size := by obtain ⟨m, hm⟩ := h1; exact DataW.trod_lt m _ _ _ hm
    exact trodAll_cons_mk (Below.trod hl (hr t (by simp)).1 (hr t (by simp)).2 h1 hb hlt) (trodAll_below hl hb (fun t ht => hr t (by simp [ht])) h2)
theorem below_of_fr {w' : World} (h : Fr w w' []) : Below w.heap.size w w' := ⟨h.hos, h.htape, h.hout, h.hsize, fun b hb => h.hblk b hb fun o ⟨r, hr, _⟩ => by simp at hr⟩

theorem law_contract {f : FuncId} {fn : Func} {s : ChangeSpec} {tb : TypeId} {ps : List Par} (hl : laidOutB P = true) (hvars : s.vars = []) (hspec : ∀ ds : List (DataW H), ds.length = fn.params.toList.length → s.fn H ds = { results := [.lit (.bool true)], args := ds })
    (hres : fn.resultTypes = #[tb]) (hb : P.underlying tb = some .bool) (hread : ∀ t ∈ fn.params.toList, P.readableRec t = true ∧ t < P.types.size) (hsh : ShA P fn.params.toList ps) (hS : ∀ A, TyA ps A → ∃ A', SCall P f A (.v (.bool true)) A')
    (W : World) (base : Nat) (args : Array Value) (ds gs : List (DataW H)) (before : List MemPlace) (hval : ∀ (j : Nat) t v, fn.params[j]? = some t → args[j]? = some v → Value.okWide P W .any base t v)
    (hW : DataW.Whole enc P fn.params.toList s.vars false W args.toList ds gs before) : Calls P f args W fun e W' => ∃ v, e = .returned v ∧ s.post enc P fn false true false false W args v W' := by
  have hW' := hW
  obtain ⟨p, q, hA, hV, rfl, hfz, hnd⟩ := hW
  rw [hvars] at hV
  obtain ⟨rfl, rfl⟩ := trodVars_none hV
  obtain ⟨A, hty, hBR⟩ := trodAll_ty hsh hA (r := .any) (b := base) fun j t v ht hv => hval j t v (by simpa using ht) (by simpa using hv)
  obtain ⟨A', hS⟩ := hS A hty
  refine (hS W (Rb W) args.toList [] hBR (by simp [Disj]) (fun b hb => hb) (fun b o _ ⟨r, hr, _⟩ => by simp at hr)).mono ?_
  rintro e W' ⟨v, R', o1, o2, rfl, r1, _, _, _, _, _, _, hfr⟩
  unfold BR at r1
  obtain ⟨rfl, _⟩ := r1
  have bel := below_of_fr hfr
  have hlen : ds.length = fn.params.toList.length := by
    have : ∀ {ts : List TypeId} {vs : List Value} {ds : List (DataW H)} {q : List MemPlace}, DataW.TrodAll enc P W 0 (fun _ => true) true ts vs ds q → ds.length = ts.length := by
      intro ts
      induction ts with
      | nil => intro vs ds q h; cases vs <;> cases ds <;> simp [DataW.TrodAll] at h ⊢
      | cons t ts ih =>
        intro vs ds q h
        obtain ⟨v, vs', d, ds', p1, p2, rfl, rfl, rfl, h1, h2⟩ := trodAll_cons h
        simp [ih h2]
    exact this hA
  refine ⟨_, rfl, ds, [], p ++ [], [], p, [], hW', ?_, ?_, ?_, bel.frame _, fun h => by cases h⟩
  · rw [List.append_nil, hspec ds hlen, hres]
    exact trodAll_mk1 (shut_bool hb _)
  · rw [List.append_nil, hspec ds hlen]
    exact trodAll_below hl bel hread hA
  · rw [List.append_nil, hspec ds hlen, hvars]
    rfl
end
end Go.Lift
/- Bytes, aL cells. -/
namespace Go.Lift
open Go Go.RowKit

def bcells (l : List UInt8) : List IV := l.map fun b => .v (.int .u8 (b.toNat : Int))
def b8 (e : Int) : UInt8 := UInt8.ofNat (IntKind.u8.wrap e).toNat
theorem bcells_length (l : List UInt8) : (bcells l).length = l.length := by simp [bcells]
theorem bcells_isV (l : List UInt8) : (bcells l).all isV = true := by simp [bcells, isV]
theorem bcells_isTree (l : List UInt8) : (bcells l).all isTree = true := by simp [bcells, isTree, Value.oneCell']
theorem bcells_take (l : List UInt8) (n : Nat) : (bcells l).take n = bcells (l.take n) := by simp [bcells, List.map_take]
theorem bcells_drop (l : List UInt8) (n : Nat) : (bcells l).drop n = bcells (l.drop n) := by simp [bcells, List.map_drop]
theorem bcells_append (l r : List UInt8) : bcells l ++ bcells r = bcells (l ++ r) := by simp [bcells]
theorem bcells_cut (l : List UInt8) (o n : Nat) : cut (bcells l) o n 1 = bcells ((l.drop o).take n) := by simp [cut, bcells, List.map_take, List.map_drop]
theorem bytes_bcells : ∀ (l : List UInt8), bytesOfCells (bcells l) = some l
  | [] => rfl
  | b :: l => by
    have := bytes_bcells l
    simp only [bcells, List.map_cons, bytesOfCells] at this ⊢
    rw [this]; simp
theorem noTr_bcells (l : List UInt8) : noTrl (bcells l) = true := by
  induction l with
  | nil => rfl
  | cons b l ih => simpa [bcells, noTrl, noTr] using ih
theorem take_length_self {α : Type} (l : List α) : l.take l.length = l := List.take_length
theorem u8_wf {n : Int} (h : (Lit.int .u8 n).wf = true) : 0 ≤ n ∧ n < 256 := by
  have := (Lit.wf_int_iff .u8 n).1 h
  simp [IntKind.min, IntKind.max, IntKind.signed, IntKind.bits] at this
  omega
theorem bytes_of_elems : ∀ (elems : List (List IV)), (∀ c ∈ elems, Tyl [.int .u8] c) → ∃ l : List UInt8, l.length = elems.length ∧ elems.flatten = bcells l
  | [], _ => ⟨[], rfl, rfl⟩
  | c :: elems, h => by
    obtain ⟨l, h1, h2⟩ := bytes_of_elems elems fun c' hc' => h c' (by simp [hc'])
    have hc := h c (by simp)
    unfold Tyl at hc
    obtain ⟨y, ys, rfl, hy, hys⟩ := hc
    unfold Tyl at hys; subst hys
    unfold Ty at hy
    obtain ⟨n, rfl, hw⟩ := hy
    obtain ⟨w1, w2⟩ := u8_wf hw
    refine ⟨UInt8.ofNat n.toNat :: l, by simp [h1], ?_⟩
    simp only [List.flatten_cons, h2, bcells, List.map_cons, List.cons_append, List.nil_append]
    congr 3
    rw [UInt8.toNat_ofNat']
    omega
theorem row_bytes {x : IV} (h : Ty (.row [.int .u8]) x) : ∃ l : List UInt8, x = .tr l.length (bcells l) ∧ l.length ≤ maxLen := by
  unfold Ty at h
  obtain ⟨elems, rfl, h1, h2⟩ := h
  obtain ⟨l, h3, h4⟩ := bytes_of_elems elems h2
  exact ⟨l, by rw [h3, h4], by omega⟩
theorem TyA.cons_inv {p : Par} {ps : List Par} {A : List IV} (h : TyA (p :: ps) A) : ∃ xs B, A = argIV p.agg xs :: B ∧ Tyl p.ss xs ∧ TyA ps B := by
  unfold TyA at h; exact h
theorem TyA.one_inv {s : Sh} {ps : List Par} {A : List IV} (h : TyA (⟨false, [s]⟩ :: ps) A) : ∃ x B, A = x :: B ∧ Ty s x ∧ TyA ps B := by
  obtain ⟨xs, B, rfl, h1, h2⟩ := h.cons_inv
  unfold Tyl at h1
  obtain ⟨y, ys, rfl, hy, hys⟩ := h1
  exact ⟨y, B, rfl, hy, h2⟩
theorem TyA.nil_inv {A : List IV} (h : TyA [] A) : A = [] := by unfold TyA at h; exact h
end Go.Lift
/- Calls in short; what the walk rewrites by. -/
namespace Go.Lift
open Go Go.RowKit

def isCall (σ : St) (o : Oper) : Option (FuncId × List IV) :=
  match o.op with
  | .call c => match c.callee with
    | .value fo => match ev σ fo, evs σ c.args.toList with
      | some (.fn (.func f) caps), some xs => some (f, xs ++ caps)
      | _, _ => none
    | _ => none
  | _ => none
theorem isCall_inv {σ : St} {o : Oper} {f : FuncId} {ys : List IV} (h : isCall σ o = some (f, ys)) : ∃ c fo caps xs, o.op = .call c ∧ c.callee = .value fo ∧ ev σ fo = some (.fn (.func f) caps) ∧ evs σ c.args.toList = some xs ∧ ys = xs ++ caps := by
  unfold isCall at h
  split at h
  · rename_i c hc
    split at h
    · rename_i fo hfo
      split at h
      · rename_i f' caps xs h1 h2
        cases h
        exact ⟨c, fo, caps, xs, hc, hfo, h1, h2, rfl⟩
      · cases h
    · cases h
  · cases h
def nodupB : List Nat → List Nat → Bool
  | [], _ => true
  | k :: ks, bs => !ks.contains k && (!bs.contains k && nodupB ks bs)
theorem nodupB_spec : ∀ {ks bs : List Nat}, nodupB ks bs = true → ks.Nodup ∧ ∀ k ∈ ks, k ∉ bs
  | [], bs, _ => by simp
  | k :: ks, bs, h => by
    simp only [nodupB, Bool.and_eq_true, Bool.not_eq_true', List.contains_eq_mem, decide_eq_false_iff_not] at h
    obtain ⟨h1, h2, h3⟩ := h
    obtain ⟨g1, g2⟩ := nodupB_spec h3
    exact ⟨List.nodup_cons.2 ⟨h1, g1⟩, by simp; exact ⟨h2, g2⟩⟩
section
variable {P : Program} {TT : TTab} {fx : Fx} {i N : Nat} {o : Oper} {r : List Oper} {K : St → Prop}
theorem IL.callS (htt : TTok P TT) {f : FuncId} (hen : Ent P f) (ms : List Md) (keep : Bool) {ops : Array Oper} {xs A A' : List IV} {rr : IV} {σ σ' : St} {bs ks : List Nat} {sets : List (Nat × Blk)} {pushes : List Blk}
    (hg : Gok ops σ o) (hc : isCall σ o = some (f, xs)) (hA : exA σ.L TT ms xs = some (A, bs, ks)) (hS : SCall P f A rr A') (hnd : nodupB ks bs = true) (hok : okI rr = true) (hkr : (!keep || noTr rr) = true)
    (hi : impA keep σ.L (σ.L.length + (imp σ.L.length rr).2.length) ms xs A' = some (sets, pushes)) (hsub : ∀ s ∈ sets, s.1 ∈ ks)
    (hK : ∀ K : St → Prop, K σ' → fin o σ (imp σ.L.length rr).1 (setL (clearL (if keep = true then σ.L else frzL σ.L bs) ks) sets ++ ((imp σ.L.length rr).2 ++ pushes).map some) K) (hr : IL P fx ops r K σ') : IL P fx ops (o :: r) K σ := by
  obtain ⟨c, fo, caps, xs', h1, h2, h3, h4, rfl⟩ := isCall_inv hc
  exact IL.call htt ms keep hg h1 h2 h3 hen h4 hA (nodupB_spec hnd).1 (nodupB_spec hnd).2 hS hok hkr hi hsub hK hr
theorem DW.callS (htt : TTok P TT) {f : FuncId} (hen : Ent P f) (ms : List Md) (keep : Bool) {ops : List Oper} {X B lo hi : List Nat} {T T' : List (Nat × IV)} {L L' : List (Option Blk)} {Ls : List (List (Option Blk))} {xs A A' : List IV} {rr : IV} {bs ks : List Nat} {sets : List (Nat × Blk)} {pushes : List Blk}
    (hb : B.contains i = true) (hg : Gok ops.toArray ⟨N, T, L⟩ o) (hc : isCall ⟨N, T, L⟩ o = some (f, xs)) (hA : exA L TT ms xs = some (A, bs, ks)) (hS : SCall P f A rr A') (hnd : nodupB ks bs = true) (hok : okI rr = true) (hkr : (!keep || noTr rr) = true)
    (hi' : impA keep L (L.length + (imp L.length rr).2.length) ms xs A' = some (sets, pushes)) (hsub : ∀ s ∈ sets, s.1 ∈ ks)
    (hK : ∀ K : St → Prop, K ⟨N, T', L'⟩ → fin o ⟨N, T, L⟩ (imp L.length rr).1 (setL (clearL (if keep = true then L else frzL L bs) ks) sets ++ ((imp L.length rr).2 ++ pushes).map some) K)
    (hp : putOk o.dst T T') (hs : strad lo hi ops.length Ls.length = false ∨ LEX X L L') (hrest : DW P fx ops X B lo hi (i + 1) r N T' (L' :: L :: Ls) K) : DW P fx ops X B lo hi i (o :: r) N T (L :: Ls) K := by
  obtain ⟨c, fo, caps, xs', h1, h2, h3, h4, rfl⟩ := isCall_inv hc
  exact DW.call htt ms keep hb hg h1 h2 h3 hen h4 hA (nodupB_spec hnd).1 (nodupB_spec hnd).2 hS hok hkr hi' hsub hK hp hs hrest
end
theorem wrap_i64 {n : Int} (h1 : -9223372036854775808 ≤ n) (h2 : n ≤ 9223372036854775807) : IntKind.i64.wrap n = n := IntWalk.i64_in n (by omega)
theorem wrap_u64 {n : Int} (h1 : 0 ≤ n) (h2 : n ≤ 18446744073709551615) : IntKind.u64.wrap n = n := IntWalk.u64_in n (by omega)
theorem wrap_u32 {n : Int} (h1 : 0 ≤ n) (h2 : n ≤ 4294967295) : IntKind.u32.wrap n = n := IntWalk.u32_in n (by omega)
theorem wrap_u16 {n : Int} (h1 : 0 ≤ n) (h2 : n ≤ 65535) : IntKind.u16.wrap n = n := IntWalk.u16_in n (by omega)
theorem wrap_u8 {n : Int} (h1 : 0 ≤ n) (h2 : n ≤ 255) : IntKind.u8.wrap n = n := IntWalk.u8_in n (by omega)
attribute [go_sem] stepOp ob_some ev lk if_true if_false cellsOf isCell rowObj Option.map_some fin true_and List.length_nil List.nil_append List.append_nil zeroObj List.length_cons List.cons_append
  fieldOf blkAt loadIV List.getElem?_cons_zero List.getElem?_cons_succ pbin pun pboolEq objBlk nilRow List.set_cons_zero List.set_cons_succ putAt evs List.map_cons List.map_nil List.zip_cons_cons List.zip_nil_left fillIV ZC.iv Nat.zero_add Nat.add_zero List.take_succ_cons List.take_zero List.drop_zero List.drop_succ_cons
  List.all_cons List.all_nil Option.isSome_some Bool.and_self and_self ofV ofS stepBuiltin TD.isSlice TD.isStr TD.isBool appendTo srcOf litCells bnd partIV aggEq isTree isV List.getElem?_toArray List.size_toArray Value.oneCell' eqCells and_true Nat.mul_one Nat.one_mul Nat.zero_mul Option.some.injEq decide_true decide_false Bool.false_eq_true Bool.true_and Bool.and_true maxLen
  bcells_length bcells_isV bcells_isTree bcells_take bcells_append bcells_cut bytes_bcells take_length_self forall_const isScalar Nat.le_refl Int.toNat_natCast false_imp_iff true_imp_iff Nat.sub_zero ne_eq isInt skipOp
  exA exT exTl exO exS mapO imp impl impA setL clearL frzL noTr noTrl idFree okIl okI isGone leLX maskL List.contains_nil List.contains_cons noTr_bcells List.foldl_nil List.foldl_cons resX resIV outA cut leL gval Option.bind_some bne_self_eq_false beq_self_eq_true Bool.not_true Bool.not_false Bool.false_or Bool.true_or Bool.or_false Bool.or_true
end Go.Lift
namespace Go.Lift
open Go Go.RowKit
section
variable {P : Program} {TT : TTab} {fx : Fx} {i N : Nat} {o : Oper} {r : List Oper} {K : St → Prop} {L : List (Option Blk)} {T : List (Nat × IV)} {Ls : List (List (Option Blk))}
theorem Gok.mk2 {opa : Array Oper} {σ : St} {j : Nat} {w b : Bool} (hg : o.guard = some (j, w)) (hv : gval opa σ j = some (.v (.bool b))) (hb : b = w) : Gok opa σ o := .inr ⟨j, w, hg, by rw [hv, hb]⟩
theorem Gno.mkT {opa : Array Oper} {σ : St} {j : Nat} {b : Bool} (hg : o.guard = some (j, true)) (hv : gval opa σ j = some (.v (.bool b))) (hb : b = false) : Gno opa σ o := ⟨j, true, hg, .inl (by rw [hv, hb]; rfl)⟩
theorem Gno.mkF {opa : Array Oper} {σ : St} {j : Nat} {b : Bool} (hg : o.guard = some (j, false)) (hv : gval opa σ j = some (.v (.bool b))) (hb : b = true) : Gno opa σ o := ⟨j, false, hg, .inl (by rw [hv, hb]; rfl)⟩
theorem Gno.mkU {opa : Array Oper} {σ : St} {j : Nat} {w : Bool} (hg : o.guard = some (j, w)) (hv : gval opa σ j = some (.v (.tuple #[]))) : Gno opa σ o := ⟨j, w, hg, .inr hv⟩
theorem IL.wr {opa : Array Oper} {d : Nat} {k k' : IntKind} {n : Int} {l : List Oper} (h : k.wrap n = n) (h1 : IL P fx opa l K ⟨N, (d, .v (.int k' n)) :: T, L⟩) : IL P fx opa l K ⟨N, (d, .v (.int k' (k.wrap n))) :: T, L⟩ := by rw [h]; exact h1
theorem DW.wr {ops : List Oper} {X B lo hi : List Nat} {d : Nat} {k k' : IntKind} {n : Int} {l : List Oper} (h : k.wrap n = n) (h1 : DW P fx ops X B lo hi i l N ((d, .v (.int k' n)) :: T) Ls K) : DW P fx ops X B lo hi i l N ((d, .v (.int k' (k.wrap n))) :: T) Ls K := by rw [h]; exact h1
theorem Fin.of {fn : Func} {kp : Nat → Bool} {gs : List Bool} {A A' A2 : List IV} {q q' : IV} {σ : St} {k1 k2 : List Nat} (h1 : resX fn TT σ = some (q', k1)) (h2 : outA kp σ.L gs (impl 0 A).1 A = some (A2, k2)) (h3 : nodupB (k1 ++ k2) [] = true) (h4 : q' = q) (h5 : A2 = A') : Fin fn TT kp gs A q A' σ :=
  ⟨k1, k2, by rw [h1, h4], by rw [h2, h5], (nodupB_spec h3).1⟩
end
end Go.Lift
/- Loops that count; blocks numbered anew. -/
namespace Go.Lift
open Go Go.RowKit
section
variable {P : Program} {TT : TTab} {fx : Fx} {c : Code} {N : St → Prop} {Q : Exit → St → Prop} {σ : St}
theorem WK.forS (len : Nat) (Pr : Nat → Prop) (S : Nat → St) (h0 : Pr 0 ∧ Weak P fx σ (S 0)) (h1 : ∀ k, k < len → Pr k → WK P fx c (fun σ1 => Pr (k + 1) ∧ Weak P fx σ1 (S (k + 1))) Q (S k))
    (h2 : Pr len → WK P fx c (fun _ => False) Q (S len)) : WK P fx (.loop c) N Q σ := by
  refine WK.loop (fun n σ => ∃ k, n + k = len ∧ Pr k ∧ σ = S k) len ⟨S 0, h0.2, 0, rfl, h0.1, rfl⟩ ?_
  rintro n σ ⟨k, hk, hp, rfl⟩
  by_cases hlt : k < len
  · refine IW.mono (h1 k hlt hp) fun e σ he => ?_
    cases e <;> first
      | exact he
      | exact ⟨S (k + 1), n - 1, he.2, by omega, k + 1, by omega, he.1, rfl⟩
  · obtain rfl : k = len := by omega
    refine IW.mono (h2 hp) fun e σ he => ?_
    cases e <;> first
      | exact he
      | exact he.elim
theorem WK.whileS {α : Type} (m : α → Nat) (Pr : α → Prop) (S : α → St) (x0 : α) (h0 : Pr x0 ∧ Weak P fx σ (S x0)) (h1 : ∀ x, Pr x → WK P fx c (fun σ1 => ∃ y, m y < m x ∧ Pr y ∧ Weak P fx σ1 (S y)) Q (S x)) : WK P fx (.loop c) N Q σ := by
  refine WK.loop (fun n σ => ∃ x, n = m x ∧ Pr x ∧ σ = S x) (m x0) ⟨S x0, h0.2, x0, rfl, h0.1, rfl⟩ ?_
  rintro n σ ⟨x, rfl, hp, rfl⟩
  refine IW.mono (h1 x hp) fun e σ he => ?_
  cases e <;> first
    | exact he
    | (obtain ⟨y, h1, h2, h3⟩ := he; exact ⟨S y, m y, h3, h1, y, rfl, h2, rfl⟩)
theorem WK.gotoS {α : Type} (l0 : Nat) (m : α → Nat) (Pr : α → Prop) (S : α → St)
    (h0 : WK P fx c N (jumpQ (fun l σ1 => l = l0 ∧ ∃ x, Pr x ∧ Weak P fx σ1 (S x)) Q) σ)
    (h1 : ∀ x, Pr x → ∃ rest, findLabel c l0 = some rest ∧ WK P fx rest N (jumpQ (fun l σ1 => l = l0 ∧ ∃ y, m y < m x ∧ Pr y ∧ Weak P fx σ1 (S y)) Q) (S x)) : WK P fx (.scope c) N Q σ := by
  refine WK.scope (fun n l σ => l = l0 ∧ ∃ x, n = m x ∧ Pr x ∧ σ = S x) (IW.mono h0 fun e σ he => ?_) ?_
  · cases e <;> first
      | exact he
      | (obtain ⟨rfl, x, h1, h2⟩ := he; exact ⟨S x, m x, h2, rfl, x, rfl, h1, rfl⟩)
  · rintro n l σ ⟨rfl, x, rfl, hp, rfl⟩
    obtain ⟨rest, hr, h⟩ := h1 x hp
    refine ⟨rest, hr, IW.mono h fun e σ he => ?_⟩
    cases e <;> first
      | exact he
      | (obtain ⟨rfl, y, h1, h2, h3⟩ := he; exact ⟨S y, m y, h3, h1, rfl, y, rfl, h2, rfl⟩)
theorem WK.gotoL {α : Type} (l0 : Nat) {rest : Code} (hl : findLabel c l0 = some (.seq .skip rest)) (m : α → Nat) (Pr : α → Prop) (S : α → St)
    (h1 : ∀ x, Pr x → WK P fx rest N (jumpQ (fun l σ1 => l = l0 ∧ ∃ y, m y < m x ∧ Pr y ∧ Weak P fx σ1 (S y)) Q) (S x))
    (h0 : (∀ σ' x, Pr x → Weak P fx σ' (S x) → WK P fx rest N (jumpQ (fun l σ1 => l = l0 ∧ ∃ x, Pr x ∧ Weak P fx σ1 (S x)) Q) σ') → WK P fx c N (jumpQ (fun l σ1 => l = l0 ∧ ∃ x, Pr x ∧ Weak P fx σ1 (S x)) Q) σ) : WK P fx (.scope c) N Q σ := by
  refine WK.gotoS l0 m Pr S (h0 fun σ' x hx hw => WK.weak hw (IW.mono (h1 x hx) fun e σ he => ?_)) fun x hx => ⟨_, hl, WK.seq (WK.skip (h1 x hx))⟩
  cases e <;> first
    | exact he
    | (obtain ⟨e, y, _, h1, h2⟩ := he; exact ⟨e, y, h1, h2⟩)
theorem WK.exit_out1 {id id' : Nat} {N' N2 : St → Prop} (hne : id ≠ id') (h : N σ) : WK P fx (.exit id) N' (exQ id' N2 (exQ id N Q)) σ := WK.exit (by simp only [exQ, if_neg hne, if_true]; exact h)
theorem WK.exit_out2 {id i1 i2 : Nat} {N' N2 N3 : St → Prop} (h1 : id ≠ i1) (h2 : id ≠ i2) (h : N σ) : WK P fx (.exit id) N' (exQ i1 N2 (exQ i2 N3 (exQ id N Q))) σ := WK.exit (by simp only [exQ, if_neg h1, if_neg h2, if_true]; exact h)
def RenL (L : List (Option Blk)) (all : List Nat) : List Nat → List (Option Blk) → Prop
  | [], [] => True
  | _ :: ks, none :: bs => RenL L all ks bs
  | k :: ks, some b' :: bs => (∃ b, L[k]? = some (some b) ∧ rnBlk L all b = some b') ∧ RenL L all ks bs
  | _, _ => False
theorem RenL.get {L : List (Option Blk)} {all : List Nat} : ∀ {ks : List Nat} {bs : List (Option Blk)}, RenL L all ks bs → bs.length = ks.length ∧ ∀ (j : Nat) (b' : Blk), bs[j]? = some (some b') → ∃ k b, ks[j]? = some k ∧ L[k]? = some (some b) ∧ rnBlk L all b = some b'
  | [], [], _ => ⟨rfl, fun j b' h => by simp at h⟩
  | k :: ks, none :: bs, h => by
    obtain ⟨g1, g2⟩ := RenL.get (ks := ks) (bs := bs) h
    refine ⟨by simp [g1], fun j b' hb => ?_⟩
    cases j with
    | zero => simp at hb
    | succ j => simpa using g2 j b' (by simpa using hb)
  | k :: ks, some b1 :: bs, h => by
    obtain ⟨⟨b, hb1, hb2⟩, h2⟩ := h
    obtain ⟨g1, g2⟩ := RenL.get (ks := ks) (bs := bs) h2
    refine ⟨by simp [g1], fun j b' hb => ?_⟩
    cases j with
    | zero => simp at hb; subst hb; exact ⟨k, b, rfl, hb1, hb2⟩
    | succ j => simpa using g2 j b' (by simpa using hb)
  | [], _ :: _, h => h.elim
  | _ :: _, [], h => h.elim
theorem Weak.renS (ks : List Nat) {σ' : St} (hfx : ∀ k, (fx.par k).isSome = true → false = true) (hN : σ'.N = σ.N) (hT : AllT (fun t => (lk σ.T t).bind (rnIV σ.L ks)) σ'.T) (hL : RenL σ.L ks ks σ'.L) (hnd : nodupB ks [] = true) : Weak P fx σ σ' := by
  refine Weak.ren (ks := ks) ⟨hN, fun t x' hx => ?_, hL.get.1, hL.get.2, (nodupB_spec hnd).1⟩ fun k hk => by cases hfx k hk
  have := AllT.lk hT hx
  rw [Option.bind_eq_some_iff] at this
  exact this
theorem Weak.renP (n : Nat) (ks : List Nat) {σ' : St} {kp : Nat → Bool} (hfx : ∀ k, (fx.par k).isSome = true → kp k = true) (hkp : ∀ k, kp k = true → k < n) (hk : ∀ k, k < n → ks[k]? = some k ∧ ∃ b, σ.L[k]? = some (some b) ∧ b.ver = 0)
    (hN : σ'.N = σ.N) (hT : AllT (fun t => (lk σ.T t).bind (rnIV σ.L ks)) σ'.T) (hL : RenL σ.L ks ks σ'.L) (hnd : nodupB ks [] = true) : Weak P fx σ σ' := by
  refine Weak.ren (ks := ks) ⟨hN, fun t x' hx => ?_, hL.get.1, hL.get.2, (nodupB_spec hnd).1⟩ fun k h => hk k (hkp k (hfx k h))
  have := AllT.lk hT hx
  rw [Option.bind_eq_some_iff] at this
  exact this
attribute [go_sem] AllT rnIV rnIVs rnBlk posOf posOf.go RenL
end
end Go.Lift
/- Rows of structs, aL cells; what a law is handed. -/
namespace Go.Lift
open Go Go.RowKit

def encs {α : Type} (f : α → List IV) (l : List α) : List IV := (l.map f).flatten
section
variable {α : Type} {f : α → List IV} {n : Nat}
theorem encs_nil : encs f [] = [] := rfl
theorem encs_cons (a : α) (l : List α) : encs f (a :: l) = f a ++ encs f l := rfl
theorem encs_snoc (l : List α) (a : α) : encs f l ++ f a = encs f (l ++ [a]) := by simp [encs]
theorem encs_length (hf : ∀ a, (f a).length = n) (l : List α) : (encs f l).length = l.length * n := by
  induction l with
  | nil => simp [encs]
  | cons a l ih => rw [encs_cons, List.length_append, ih, hf, List.length_cons, Nat.succ_mul, Nat.add_comm]
theorem encs_take (hf : ∀ a, (f a).length = n) (l : List α) (k : Nat) : (encs f l).take (k * n) = encs f (l.take k) := by
  induction l generalizing k with
  | nil => simp [encs]
  | cons a l ih =>
    cases k with
    | zero => simp [encs]
    | succ k =>
      rw [encs_cons, List.take_succ_cons, encs_cons, List.take_append, hf, Nat.succ_mul, Nat.add_sub_cancel, ih]
      rw [List.take_of_length_le (by rw [hf]; omega)]
theorem encs_drop (hf : ∀ a, (f a).length = n) (l : List α) (k : Nat) : (encs f l).drop (k * n) = encs f (l.drop k) := by
  induction l generalizing k with
  | nil => simp [encs]
  | cons a l ih =>
    cases k with
    | zero => simp
    | succ k =>
      rw [encs_cons, List.drop_succ_cons, List.drop_append, hf, Nat.succ_mul, Nat.add_sub_cancel, ih]
      rw [List.drop_eq_nil_of_le (by rw [hf]; omega)]; rfl
theorem encs_cut (hf : ∀ a, (f a).length = n) (l : List α) (o m : Nat) : cut (encs f l) o m n = encs f ((l.drop o).take m) := by
  unfold cut; rw [encs_drop hf, encs_take hf]
theorem encs_at (hf : ∀ a, (f a).length = n) {l : List α} {k : Nat} {a : α} (h : l[k]? = some a) : ((encs f l).drop (k * n)).take n = f a := by
  have := encs_cut hf l k 1
  unfold cut at this
  rw [Nat.one_mul] at this
  rw [this]
  have hd : (l.drop k).take 1 = [a] := by
    have hk := (List.getElem?_eq_some_iff.1 h).1
    rw [List.drop_eq_getElem_cons hk]
    have := (List.getElem?_eq_some_iff.1 h).2
    simp [this]
  rw [hd]; simp [encs]
theorem encs_get (hf : ∀ a, (f a).length = n) {l : List α} {k j : Nat} {a : α} (h : l[k]? = some a) (hj : j < n) : (encs f l)[k * n + j]? = (f a)[j]? := by
  rw [← encs_at hf h, List.getElem?_take, if_pos hj, List.getElem?_drop]
theorem encs_le (hf : ∀ a, (f a).length = n) {l : List α} {k : Nat} {a : α} (h : l[k]? = some a) : k * n + n ≤ (encs f l).length := by
  rw [encs_length hf, ← Nat.succ_mul]; exact Nat.mul_le_mul_right n (List.getElem?_eq_some_iff.1 h).1
theorem encs_ne (hf : ∀ a, (f a).length = n) (hn : 0 < n) {l : List α} {k : Nat} {a : α} (h : l[k]? = some a) : encs f l ≠ [] := by
  intro e
  have := encs_le hf h
  rw [e] at this
  simp at this; omega
theorem encs_all {p : IV → Bool} (h : ∀ a, (f a).all p = true) (l : List α) : (encs f l).all p = true := by
  induction l with
  | nil => rfl
  | cons a l ih => rw [encs_cons, List.all_append, h, ih]; rfl
theorem noTrl_all : ∀ (xs : List IV), xs.all isV = true → noTrl xs = true
  | [], _ => by simp [noTrl]
  | x :: xs, h => by
    rw [List.all_cons, Bool.and_eq_true] at h
    cases x <;> first | (cases h.1; done) | skip
    simp only [noTrl, noTr, Bool.true_and]
    exact noTrl_all xs h.2
theorem encs_noTr (h : ∀ a, (f a).all isV = true) (l : List α) : noTrl (encs f l) = true := noTrl_all _ (encs_all h l)
end

class Cells {α : Type} (f : α → List IV) (n : outParam Nat) : Prop where
  len : ∀ a, (f a).length = n
  isV : ∀ a, (f a).all isV = true
  tree : ∀ a, (f a).all isTree = true
section
variable {α : Type} {f : α → List IV} {n : Nat} [h : Cells f n]
include h
@[go_sem] theorem cells_take (l : List α) (k : Nat) : (encs f l).take (k * n) = encs f (l.take k) := encs_take h.len l k
@[go_sem] theorem cells_length (l : List α) : (encs f l).length = l.length * n := encs_length h.len l
@[go_sem] theorem cells_noTr (l : List α) : noTrl (encs f l) = true := encs_noTr h.isV l
@[go_sem] theorem cells_isV (l : List α) : (encs f l).all Lift.isV = true := encs_all h.isV l
@[go_sem] theorem cells_isTree (l : List α) : (encs f l).all isTree = true := encs_all h.tree l
@[go_sem] theorem cells_len1 (a : α) : (f a).length = n := h.len a
end
attribute [go_sem] Int.natCast_nonneg implies_true encs_nil List.take_length
theorem wf_bounds {k : IntKind} {n : Int} (h : (Lit.int k n).wf = true) : k.min ≤ n ∧ n ≤ k.max := by
  simpa [Lit.wf] using h
theorem wf_u16 {n : Int} (h : (Lit.int .u16 n).wf = true) : 0 ≤ n ∧ n ≤ 65535 := wf_bounds h
theorem wf_u32 {n : Int} (h : (Lit.int .u32 n).wf = true) : 0 ≤ n ∧ n ≤ 4294967295 := wf_bounds h
theorem row_of {α : Type} {f : α → List IV} {es : List Sh} {good : α → Prop} (hd : ∀ c, Tyl es c → ∃ a, c = f a ∧ good a) {x : IV} (h : Ty (.row es) x) : ∃ l : List α, x = .tr l.length (encs f l) ∧ l.length ≤ maxLen ∧ ∀ a ∈ l, good a := by
  unfold Ty at h
  obtain ⟨elems, rfl, h1, h2⟩ := h
  have : ∀ (es' : List (List IV)), (∀ c ∈ es', Tyl es c) → ∃ l : List α, l.length = es'.length ∧ es'.flatten = encs f l ∧ ∀ a ∈ l, good a := by
    intro es'
    induction es' with
    | nil => intro _; exact ⟨[], rfl, rfl, by simp⟩
    | cons c cs ih =>
      intro h
      obtain ⟨l, g1, g2, g3⟩ := ih fun c hc => h c (by simp [hc])
      obtain ⟨a, rfl, ha⟩ := hd c (h c (by simp))
      exact ⟨a :: l, by simp [g1], by rw [List.flatten_cons, g2, encs_cons], by simp; exact ⟨ha, g3⟩⟩
  obtain ⟨l, g1, g2, g3⟩ := this elems h2
  exact ⟨l, by rw [g1, g2], by omega, g3⟩
theorem Tyl.cons_inv {s : Sh} {ss : List Sh} {xs : List IV} (h : Tyl (s :: ss) xs) : ∃ y ys, xs = y :: ys ∧ Ty s y ∧ Tyl ss ys := by unfold Tyl at h; exact h
theorem Tyl.nil_inv {xs : List IV} (h : Tyl [] xs) : xs = [] := by unfold Tyl at h; exact h
theorem Ty.int_inv {k : IntKind} {x : IV} (h : Ty (.int k) x) : ∃ n, x = .v (.int k n) ∧ (Lit.int k n).wf = true := by unfold Ty at h; exact h
end Go.Lift
/- More operations: 'make' of a slice, 'copy'. -/
namespace Go.Lift
open Go Go.RowKit

def zrow (zs : List ZC) (n : Nat) : List IV := (List.replicate n (zs.map ZC.iv)).flatten

def stepX (TT : TTab) (o : Oper) (σ : St) (K : St → Prop) : Prop :=
  match o.op with
  | .makeSlice t l c => ob (TT t) fun i => match i.desc with
    | .slice e => ob (TT e) fun ie => ob (ev σ l) fun l => ob (ev σ c) fun c => match l, c with
      | .v (.int _ l), .v (.int _ c) => (0 ≤ l ∧ l ≤ c ∧ (ie.bytes : Int) * c ≤ 281474976710656 ∧ c ≤ 9223372036854775807) ∧ (ie.flat = true → (ie.zero.map ZC.iv).all isV = true) ∧
          fin o σ (.sl σ.L.length 0 0 l.toNat) (σ.L ++ [some ⟨true, e, l.toNat, ie.flat, zrow ie.zero l.toNat, 0, false⟩]) K
      | _, _ => False
    | _ => False
  | .call c => match c.callee with
    | .builtin .copy => match c.argTypes.toList with
      | [t, u] => ob (evs σ c.args.toList) fun xs => match xs with
        | [.sl k ver off n, y] => ob (TT t) fun it => match it.desc with
          | .slice e => ob (TT e) fun ie => ob (srcOf σ.L TT u e ie.size y) fun (m, cs) => ob (blkAt σ.L k ver) fun b =>
              (b.frz = false ∧ b.row = true ∧ b.t = e ∧ m ≤ n ∧ off + n ≤ b.n) ∧ (b.fl = true → cs.all isV = true) ∧
              fin o σ (.v (.int .i64 m)) (σ.L.set k (some { b with cs := putAt b.cs (off * ie.size) cs })) K
          | _ => False
        | _ => False
      | _ => False
    | _ => False
  | _ => False

section
variable {P : Program} {TT : TTab} {fx : Fx} {cx : Cx} {σ : St} {a : Act} {w : World} {o : Oper} {K : St → Prop} {next : Act → World → Prop} {Q : Exit → Act → World → Prop}

end
attribute [go_sem] Lift.stepX
end Go.Lift
/- Numbers in bits; texts aL lists of bytes. -/
namespace Go.Lift
open Go Go.RowKit

theorem bits_u64 (a b : Nat) (ha : a < 2 ^ 64) (hb : b < 2 ^ 64) : bits .and .u64 (a : Int) (b : Int) = ((a &&& b : Nat) : Int) ∧ bits .or .u64 (a : Int) (b : Int) = ((a ||| b : Nat) : Int) :=
  ⟨(bits_nat .u64 64 (by decide) (fun n h0 h1 => IntWalk.u64_in n (by omega)) a b ha hb).1, (bits_nat .u64 64 (by decide) (fun n h0 h1 => IntWalk.u64_in n (by omega)) a b ha hb).2⟩
theorem ba_size (l : List UInt8) : (ByteArray.mk l.toArray).size = l.length := by show l.toArray.size = _; simp
theorem strCells_mk (l : List UInt8) : strCells ⟨l.toArray⟩ = bcells l := by simp [strCells, bcells]
theorem ba_append (l r : List UInt8) : ByteArray.mk l.toArray ++ ByteArray.mk r.toArray = ByteArray.mk (l ++ r).toArray := by
  apply ByteArray.ext
  rw [ByteArray.data_append]
  simp
theorem ba_toList (l : List UInt8) : (ByteArray.mk l.toArray).toList = l := by rw [ByteArray.toList_mk]
attribute [go_sem] bcells_drop ba_size strCells_mk ByteArray.extract_mk ba_append ba_toList List.size_toArray
end Go.Lift
/- A law's row with the sizes of what is handed over. -/
namespace Go.Lift
open Go Go.RowKit Go.ChangeShapes Go.WideShapes

section
variable {P : Program} {H : Type} {enc : TypeId × Value → H} {w : World} {base : Nat} {spare : Nat → Bool} {held : Bool}
end
def stepArr (TT : TTab) (o : Oper) (σ : St) (K : St → Prop) : Prop :=
  match o.op with
  | .build t ps => ob (TT t) fun i => match i.desc with
    | .arr _ e => ob (TT e) fun ie => ob (litCells ie.size 0 ps.toList σ) fun cs => ps.toList.length * ie.size = i.size ∧ fin o σ (.agg cs) σ.L K
    | _ => False
  | _ => False
section
variable {P : Program} {TT : TTab} {fx : Fx} {cx : Cx} {σ : St} {a : Act} {w : World} {o : Oper} {K : St → Prop} {next : Act → World → Prop} {Q : Exit → Act → World → Prop}
end
attribute [go_sem] Lift.stepArr
end Go.Lift
/- A row of the frame's is only read from now on: its slices become trees. -/
namespace Go.Lift
open Go Go.RowKit

mutual
def frzV (L : List (Option Blk)) (TT : TTab) (k : Nat) : IV → IV
  | .sl k' ver o n => if k' = k then (match exT L TT (.sl k' ver o n) with
    | some (x, _) => x
    | none => .sl k' ver o n) else .sl k' ver o n
  | .agg cs => .agg (frzVs L TT k cs)
  | .tup cs => .tup (frzVs L TT k cs)
  | x => x
def frzVs (L : List (Option Blk)) (TT : TTab) (k : Nat) : List IV → List IV
  | [] => []
  | x :: xs => frzV L TT k x :: frzVs L TT k xs
end
def frzT (L : List (Option Blk)) (TT : TTab) (k : Nat) : List (Nat × IV) → List (Nat × IV)
  | [] => []
  | (t, x) :: r => (t, frzV L TT k x) :: frzT L TT k r
section
variable {P : Program} {TT : TTab} {fx : Fx} {cx : Cx} {σ : St} {w : World}
end
attribute [go_sem] frzT frzV frzVs
end Go.Lift
/- A literal's row that is only read from its beginning on: in a region whose order is drawn it turns no block. -/
namespace Go.Lift
open Go Go.RowKit

section
variable {P : Program} {TT : TTab} {fx : Fx} {cx : Cx} {σ : St} {a : Act} {w : World} {o : Oper} {K : St → Prop} {next : Act → World → Prop} {Q : Exit → Act → World → Prop}
end
def stepBT (TT : TTab) (o : Oper) (σ : St) (K : St → Prop) : Prop :=
  match o.op with
  | .buildSlice t len ps => ob (TT t) fun i => match i.desc with
    | .slice e => ob (TT e) fun ie => ob (litCells ie.size 0 ps.toList σ) fun cs => (len ≤ 1000 ∧ ie.size ≤ 1000 ∧ ps.size = len) ∧ cs.all isTree = true ∧ fin o σ (.tr len cs) σ.L K
    | _ => False
  | _ => False
section
variable {P : Program} {TT : TTab} {fx : Fx}
variable {ops : List Oper} {X B lo hi : List Nat} {i N : Nat} {o : Oper} {r : List Oper} {T T' : List (Nat × IV)} {Ls : List (List (Option Blk))} {K : St → Prop} {L : List (Option Blk)}
end
attribute [go_sem] stepBT
end Go.Lift
/- A branch, and both its ways met again in one state. -/
namespace Go.Lift
open Go Go.RowKit
section
variable {P : Program} {fx : Fx} {N : St → Prop} {Q : Exit → St → Prop} {σ : St}
end
end Go.Lift
/- An empty slice in a variable is a row of the frame's own. -/
namespace Go.Lift
open Go Go.RowKit

section
variable {P : Program} {TT : TTab} {fx : Fx} {σ : St}
end
end Go.Lift
/- The evaluator's set takes the arithmetic of literals along. -/
namespace Go.Lift
attribute [go_sem_proc] Nat.reduceEqDiff Nat.reduceLT Nat.reduceAdd Nat.reduceLeDiff Nat.reduceMul Nat.reducePow Nat.reduceSub Int.reduceLE Int.reduceLT Int.reduceEq Int.reduceToNat Int.reduceBEq Int.reduceBNe Int.reduceNeg Nat.reduceBEq reduceIte
end Go.Lift
/- Package variables: what they hold when a call begins, and is only read. -/
namespace Go.Lift
open Go Go.RowKit Go.ChangeShapes Go.WideShapes

section
variable {G : List (Nat × List IV)} {P : Program} {TT : TTab} {fx : Fx} {o : Oper} {r : List Oper} {K : St → Prop} {i N : Nat}
section
variable {ops : List Oper} {X B lo hi : List Nat} {T T' : List (Nat × IV)} {L L' : List (Option Blk)} {Ls : List (List (Option Blk))}
variable {σ : St} {Q : Exit → St → Prop} {Nn : St → Prop}
end
end
section
variable {G : List (Nat × List IV)} {P : Program} {H : Type} {enc : TypeId × Value → H}
end
end Go.Lift
/- A law's row with the sizes of all rows, those inside others too (package variables may be read). -/
namespace Go.Lift
open Go Go.RowKit Go.ChangeShapes Go.WideShapes

section
variable {P : Program} {H : Type} {enc : TypeId × Value → H} {w : World} {base : Nat} {spare : Nat → Bool} {held : Bool} {R : Nat → Prop}
end
end Go.Lift
/- The kit's own contracts, aL contracts of this library: plain values in, plain values out. -/
namespace Go.Lift
open Go Go.RowKit

end Go.Lift
/- Function values: what is handed over to a function that is handed a function, laid flat: the variables that it captured stand in the list by themselves. -/
namespace Go.Lift
open Go Go.RowKit

section
variable {G : List (Nat × List IV)} {P : Program} {TT : TTab} {fx : Fx} {o : Oper} {r : List Oper} {K : St → Prop} {i N : Nat}
section
variable {ops : List Oper} {X B lo hi : List Nat} {T T' : List (Nat × IV)} {L L' : List (Option Blk)} {Ls : List (List (Option Blk))}
end
end
attribute [go_sem] packIV packV pk unpk List.take_succ_cons List.drop_succ_cons List.take_zero List.drop_zero
end Go.Lift
/- Short forms of the rules: what a rule asks for besides its next step is done by itself. -/
namespace Go.Lift
open Go Go.RowKit

theorem cG {p : Prop} (h : p := by first | exact .inl rfl | (refine Gok.mk2 (b := ?_) rfl ?_ ?_; rotate_left 1; (focus rfl); (focus (with_reducible rfl)))) : p := h
theorem cW {p : Prop} (h : p := by first | exact wrap_i64 (by omega) (by omega) | exact wrap_u64 (by omega) (by omega) | exact wrap_u32 (by omega) (by omega) | exact wrap_u16 (by omega) (by omega) | exact wrap_u8 (by omega) (by omega)) : p := h
theorem hsA : (∀ a b : Bool, ((a && b) = true) = (a = true ∧ b = true)) ∧ (∀ a b : Bool, ((a && b) = false) = (a = false ∨ b = false)) ∧ (∀ a b : Bool, ((a || b) = true) = (a = true ∨ b = true)) ∧ (∀ a b : Bool, ((a || b) = false) = (a = false ∧ b = false)) ∧
    (∀ a : Bool, ((!a) = true) = (a = false)) ∧ (∀ a : Bool, ((!a) = false) = (a = true)) := by
  refine ⟨?_, ?_, ?_, ?_, ?_, ?_⟩ <;> simp
theorem hsD {p : Prop} [Decidable p] : ((decide p = true) = p) ∧ ((decide p = false) = ¬ p) ∧ ((¬ ¬ p) ↔ p) := by simp
theorem hsE {α : Type} [BEq α] [LawfulBEq α] {a b : α} : ((a == b) = true ↔ a = b) ∧ ((a == b) = false ↔ ¬ a = b) ∧ ((a != b) = true ↔ ¬ a = b) ∧ ((a != b) = false ↔ a = b) := by simp
section
variable {P : Program} {TT : TTab} {fx : Fx} {G : List (Nat × List IV)}
section
variable {ops : Array Oper} {o : Oper} {l : List Oper} {σ σ' : St} {K : St → Prop}
theorem IL.sg (htt : TTok P TT) (hr : IL P fx ops l K σ') (hg : Gok ops σ o := by exact cG) (h : ∀ K : St → Prop, K σ' → stepOp TT o σ K := by intro K hK; simp only [go_sem, reduceIte]; first | exact hK | (and_intros <;> first | exact hK | omega | assumption | rfl | decide)) : IL P fx ops (o :: l) K σ := IL.stepg htt hg h hr
theorem IL.nn (hr : IL P fx ops l K σ') (hg : Gno ops σ o := by first | (refine Gno.mkT (b := ?_) rfl ?_ ?_; rotate_left 1; (focus rfl); (focus (with_reducible rfl))) | (refine Gno.mkF (b := ?_) rfl ?_ ?_; rotate_left 1; (focus rfl); (focus (with_reducible rfl))) | exact Gno.mkU rfl rfl)
    (h : ∀ K : St → Prop, K σ' → skipOp o σ K := by intro K hK; simp only [go_sem, reduceIte]; exact hK) : IL P fx ops (o :: l) K σ := IL.no hg h hr
theorem IL.cS (htt : TTok P TT) {f : FuncId} (hen : Ent P f) (ms : List Md) (keep : Bool) {xs A A' : List IV} {rr : IV} {bs ks : List Nat} {sets : List (Nat × Blk)} {pushes : List Blk} (hr : IL P fx ops l K σ')
    (hg : Gok ops σ o := by exact cG) (hc : isCall σ o = some (f, xs) := by rfl) (hA : exA σ.L TT ms xs = some (A, bs, ks) := by first | rfl | (simp only [go_sem, reduceIte] <;> rfl)) (hS : SCall P f A rr A') (hnd : nodupB ks bs = true := by rfl) (hok : okI rr = true := by rfl) (hkr : (!keep || noTr rr) = true := by first | rfl | (simp only [go_sem]; done))
    (hi : impA keep σ.L (σ.L.length + (imp σ.L.length rr).2.length) ms xs A' = some (sets, pushes) := by first | rfl | (simp only [go_sem, reduceIte] <;> rfl)) (hsub : ∀ s ∈ sets, s.1 ∈ ks := by (simp; done))
    (hK : ∀ K : St → Prop, K σ' → fin o σ (imp σ.L.length rr).1 (setL (clearL (if keep = true then σ.L else frzL σ.L bs) ks) sets ++ ((imp σ.L.length rr).2 ++ pushes).map some) K := by intro K hK; simp only [go_sem, reduceIte]; first | exact hK | (and_intros <;> first | exact hK | omega | assumption | rfl | decide)) : IL P fx ops (o :: l) K σ :=
  IL.callS htt hen ms keep hg hc hA hS hnd hok hkr hi hsub hK hr
end
section
variable {opa : Array Oper} {o : Oper} {r : List Oper} {N : Nat} {T : List (Nat × IV)} {L : List (Option Blk)} {K : St → Prop} {b : Bool} {d : Nat}
theorem IL.ag (h1 : b = true → IL P fx opa (o :: r) K ⟨N, (d, .v (.bool true)) :: T, L⟩) (h2 : b = false → IL P fx opa (o :: r) K ⟨N, (d, .v (.bool false)) :: T, L⟩) (hd : gslot opa o = some d := by rfl) (h : lk T d = some (.v (.bool b)) := by rfl) : IL P fx opa (o :: r) K ⟨N, T, L⟩ := IL.askg hd h h1 h2
theorem IL.ap (h1 : b = true → IL P fx opa (o :: r) K ⟨N, (d, .v (.bool true)) :: T, L⟩) (h2 : b = false → IL P fx opa (o :: r) K ⟨N, (d, .v (.bool false)) :: T, L⟩) (hd : pslot o = some d := by rfl) (h : lk T d = some (.v (.bool b)) := by rfl) : IL P fx opa (o :: r) K ⟨N, T, L⟩ := IL.askp hd h h1 h2
end
section
variable {ops : List Oper} {X B lo hi : List Nat} {i N : Nat} {o : Oper} {r : List Oper} {T T' : List (Nat × IV)} {Ls : List (List (Option Blk))} {K : St → Prop} {L L' : List (Option Blk)}
theorem DW.ag {b : Bool} {d : Nat} (h1 : b = true → DW P fx ops X B lo hi i (o :: r) N ((d, .v (.bool true)) :: T) Ls K) (h2 : b = false → DW P fx ops X B lo hi i (o :: r) N ((d, .v (.bool false)) :: T) Ls K) (hd : gslot ops.toArray o = some d := by rfl) (h : lk T d = some (.v (.bool b)) := by rfl) : DW P fx ops X B lo hi i (o :: r) N T Ls K := DW.askg hd h h1 h2
theorem DW.ap {b : Bool} {d : Nat} (h1 : b = true → DW P fx ops X B lo hi i (o :: r) N ((d, .v (.bool true)) :: T) Ls K) (h2 : b = false → DW P fx ops X B lo hi i (o :: r) N ((d, .v (.bool false)) :: T) Ls K) (hd : pslot o = some d := by rfl) (h : lk T d = some (.v (.bool b)) := by rfl) : DW P fx ops X B lo hi i (o :: r) N T Ls K := DW.askp hd h h1 h2
theorem DW.re (htt : TTok P TT) (hrest : DW P fx ops X B lo hi (i + 1) r N T' Ls K) (hb : B.contains i = false := by rfl) (hr : isRd o.op = true := by rfl) (hlh : lo.getD i 0 = hi.getD i 0 := by decide) (hL : Ls[Ls.length - 1 - lo.getD i 0]? = some L := by rfl) (hg : Gok ops.toArray ⟨N, T, L⟩ o := by exact cG)
    (h : ∀ K : St → Prop, K ⟨N, T', L⟩ → stepOp TT o ⟨N, T, L⟩ K := by intro K hK; simp only [go_sem, reduceIte]; first | exact hK | (and_intros <;> first | exact hK | omega | assumption | rfl | decide)) (hp : putOk o.dst T T' := by first | exact ⟨_, rfl⟩ | rfl) : DW P fx ops X B lo hi i (o :: r) N T Ls K := DW.rd htt hb hr hlh hL hg h hp hrest
theorem DW.rm (htt : TTok P TT) (hrest : DW P fx ops X B lo hi (i + 1) r N T' Ls K) (hb : B.contains i = false := by rfl) (hr : isRd o.op = true := by rfl) (hL : (Ls[Ls.length - 1 - lo.getD i 0]?).map (maskL X 0) = some L := by rfl) (hg : Gok ops.toArray ⟨N, T, L⟩ o := by exact cG)
    (h : ∀ K : St → Prop, K ⟨N, T', L⟩ → stepOp TT o ⟨N, T, L⟩ K := by intro K hK; simp only [go_sem, reduceIte]; first | exact hK | (and_intros <;> first | exact hK | omega | assumption | rfl | decide)) (hp : putOk o.dst T T' := by first | exact ⟨_, rfl⟩ | rfl) : DW P fx ops X B lo hi i (o :: r) N T Ls K := DW.rdm htt hb hr hL hg h hp hrest
theorem DW.bk (htt : TTok P TT) (hrest : DW P fx ops X B lo hi (i + 1) r N T' (L' :: L :: Ls) K) (hb : B.contains i = true := by rfl) (hg : Gok ops.toArray ⟨N, T, L⟩ o := by exact cG)
    (h : ∀ K : St → Prop, K ⟨N, T', L'⟩ → stepOp TT o ⟨N, T, L⟩ K := by intro K hK; simp only [go_sem, reduceIte]; first | exact hK | (and_intros <;> first | exact hK | omega | assumption | rfl | decide)) (hp : putOk o.dst T T' := by first | exact ⟨_, rfl⟩ | rfl)
    (hs : strad lo hi ops.length Ls.length = false ∨ LEX X L L' := by first | exact .inl rfl | exact .inr (LEX.refl _ _) | exact .inr (LE.app _ _).lex | exact .inr (LEX.of (by simp only [go_sem, List.contains_cons, List.contains_nil, Nat.reduceBEq, Bool.or_false, Bool.false_or, Nat.reduceAdd, true_or, false_or, true_and]; first | done | trivial | (and_intros <;> first | exact ⟨_, rfl⟩ | trivial)))) : DW P fx ops X B lo hi i (o :: r) N T (L :: Ls) K := DW.bl htt hb hg h hp hs hrest
theorem DW.nn (hrest : DW P fx ops X B lo hi (i + 1) r N T' Ls K) (hL : Ls[Ls.length - 1 - lo.getD i 0]? = some L := by rfl) (hb : B.contains i = false := by rfl) (hg : Gno ops.toArray ⟨N, T, L⟩ o := by first | (refine Gno.mkT (b := ?_) rfl ?_ ?_; rotate_left 1; (focus rfl); (focus (with_reducible rfl))) | (refine Gno.mkF (b := ?_) rfl ?_ ?_; rotate_left 1; (focus rfl); (focus (with_reducible rfl))) | exact Gno.mkU rfl rfl)
    (h : ∀ K : St → Prop, K ⟨N, T', L⟩ → skipOp o ⟨N, T, L⟩ K := by intro K hK; simp only [go_sem, reduceIte]; exact hK) (hp : putOk o.dst T T' := by first | exact ⟨_, rfl⟩ | rfl) : DW P fx ops X B lo hi i (o :: r) N T Ls K := DW.no hL hb hg h hp hrest
theorem DW.nb (hrest : DW P fx ops X B lo hi (i + 1) r N T' (L :: L :: Ls) K) (hb : B.contains i = true := by rfl) (hg : Gno ops.toArray ⟨N, T, L⟩ o := by first | (refine Gno.mkT (b := ?_) rfl ?_ ?_; rotate_left 1; (focus rfl); (focus (with_reducible rfl))) | (refine Gno.mkF (b := ?_) rfl ?_ ?_; rotate_left 1; (focus rfl); (focus (with_reducible rfl))) | exact Gno.mkU rfl rfl)
    (h : ∀ K : St → Prop, K ⟨N, T', L⟩ → skipOp o ⟨N, T, L⟩ K := by intro K hK; simp only [go_sem, reduceIte]; exact hK) (hp : putOk o.dst T T' := by first | exact ⟨_, rfl⟩ | rfl) : DW P fx ops X B lo hi i (o :: r) N T (L :: Ls) K := DW.nob hb hg h hp hrest
theorem DW.cS (htt : TTok P TT) {f : FuncId} (hen : Ent P f) (ms : List Md) (keep : Bool) {xs A A' : List IV} {rr : IV} {bs ks : List Nat} {sets : List (Nat × Blk)} {pushes : List Blk} (hrest : DW P fx ops X B lo hi (i + 1) r N T' (L' :: L :: Ls) K)
    (hb : B.contains i = true := by rfl) (hg : Gok ops.toArray ⟨N, T, L⟩ o := by exact cG) (hc : isCall ⟨N, T, L⟩ o = some (f, xs) := by rfl) (hA : exA L TT ms xs = some (A, bs, ks) := by first | rfl | (simp only [go_sem, reduceIte] <;> rfl)) (hS : SCall P f A rr A') (hnd : nodupB ks bs = true := by rfl) (hok : okI rr = true := by rfl) (hkr : (!keep || noTr rr) = true := by first | rfl | (simp only [go_sem]; done))
    (hi' : impA keep L (L.length + (imp L.length rr).2.length) ms xs A' = some (sets, pushes) := by first | rfl | (simp only [go_sem, reduceIte] <;> rfl)) (hsub : ∀ s ∈ sets, s.1 ∈ ks := by (simp; done))
    (hK : ∀ K : St → Prop, K ⟨N, T', L'⟩ → fin o ⟨N, T, L⟩ (imp L.length rr).1 (setL (clearL (if keep = true then L else frzL L bs) ks) sets ++ ((imp L.length rr).2 ++ pushes).map some) K := by intro K hK; simp only [go_sem, reduceIte]; first | exact hK | (and_intros <;> first | exact hK | omega | assumption | rfl | decide))
    (hp : putOk o.dst T T' := by first | exact ⟨_, rfl⟩ | rfl)
    (hs : strad lo hi ops.length Ls.length = false ∨ LEX X L L' := by first | exact .inl rfl | exact .inr (LEX.refl _ _) | exact .inr (LE.app _ _).lex | exact .inr (LEX.of (by simp only [go_sem, List.contains_cons, List.contains_nil, Nat.reduceBEq, Bool.or_false, Bool.false_or, Nat.reduceAdd, true_or, false_or, true_and]; first | done | trivial | (and_intros <;> first | exact ⟨_, rfl⟩ | trivial)))) : DW P fx ops X B lo hi i (o :: r) N T (L :: Ls) K :=
  DW.callS htt hen ms keep hb hg hc hA hS hnd hok hkr hi' hsub hK hp hs hrest
end
section
variable {c : Operand} {x y : Code} {N : St → Prop} {Q : Exit → St → Prop} {σ : St} {b : Bool}
theorem Fin.o {fn : Func} {kp : Nat → Bool} {gs : List Bool} {A A' A2 : List IV} {q q' : IV} {k1 k2 : List Nat} (h4 : q' = q) (h5 : A2 = A') (h1 : resX fn TT σ = some (q', k1) := by first | rfl | (simp only [go_sem, reduceIte] <;> rfl)) (h2 : outA kp σ.L gs (impl 0 A).1 A = some (A2, k2) := by first | rfl | (simp only [go_sem, reduceIte] <;> rfl)) (h3 : nodupB (k1 ++ k2) [] = true := by rfl) : Fin fn TT kp gs A q A' σ := Fin.of h1 h2 h3 h4 h5
theorem WK.e1 {id id' : Nat} {N' N2 : St → Prop} (h : N σ) (hne : id ≠ id' := by decide) : WK P fx (.exit id) N' (exQ id' N2 (exQ id N Q)) σ := WK.exit_out1 hne h
theorem WK.e2 {id i1 i2 : Nat} {N' N2 N3 : St → Prop} (h : N σ) (h1 : id ≠ i1 := by decide) (h2 : id ≠ i2 := by decide) : WK P fx (.exit id) N' (exQ i1 N2 (exQ i2 N3 (exQ id N Q))) σ := WK.exit_out2 h1 h2 h
theorem WK.cn (h1 : b = true → WK P fx x N Q σ) (h2 : b = false → WK P fx y N Q σ) (hb : ev σ c = some (.v (.bool b)) := by rfl) : WK P fx (.cond c x y) N Q σ := WK.cond hb h1 h2
end
end
end Go.Lift
/- The short forms again, for walks with facts: what is known stands in a hypothesis named FX. -/
namespace Go.Lift
open Go Go.RowKit

section
variable {P : Program} {TT : TTab} {fx : Fx} {G : List (Nat × List IV)}
section
variable {ops : Array Oper} {o : Oper} {l : List Oper} {σ σ' : St} {K : St → Prop}
theorem IL.sgF (htt : TTok P TT) (hr : IL P fx ops l K σ') (hg : Gok ops σ o := by exact cG) (h : ∀ K : St → Prop, K σ' → stepOp TT o σ K := by intro K hK; simp only [go_sem, reduceIte, FX]; first | exact hK | (and_intros <;> first | exact hK | omega | assumption | rfl | decide)) : IL P fx ops (o :: l) K σ := IL.stepg htt hg h hr
theorem IL.cSF (htt : TTok P TT) {f : FuncId} (hen : Ent P f) (ms : List Md) (keep : Bool) {xs A A' : List IV} {rr : IV} {bs ks : List Nat} {sets : List (Nat × Blk)} {pushes : List Blk} (hr : IL P fx ops l K σ')
    (hg : Gok ops σ o := by exact cG) (hc : isCall σ o = some (f, xs) := by rfl) (hA : exA σ.L TT ms xs = some (A, bs, ks) := by first | rfl | (simp only [go_sem, reduceIte, FX] <;> rfl)) (hS : SCall P f A rr A') (hnd : nodupB ks bs = true := by rfl) (hok : okI rr = true := by rfl) (hkr : (!keep || noTr rr) = true := by first | rfl | (simp only [go_sem]; done))
    (hi : impA keep σ.L (σ.L.length + (imp σ.L.length rr).2.length) ms xs A' = some (sets, pushes) := by first | rfl | (simp only [go_sem, reduceIte, FX] <;> rfl)) (hsub : ∀ s ∈ sets, s.1 ∈ ks := by (simp; done))
    (hK : ∀ K : St → Prop, K σ' → fin o σ (imp σ.L.length rr).1 (setL (clearL (if keep = true then σ.L else frzL σ.L bs) ks) sets ++ ((imp σ.L.length rr).2 ++ pushes).map some) K := by intro K hK; simp only [go_sem, reduceIte, FX]; first | exact hK | (and_intros <;> first | exact hK | omega | assumption | rfl | decide)) : IL P fx ops (o :: l) K σ :=
  IL.callS htt hen ms keep hg hc hA hS hnd hok hkr hi hsub hK hr
end
section
variable {ops : List Oper} {X B lo hi : List Nat} {i N : Nat} {o : Oper} {r : List Oper} {T T' : List (Nat × IV)} {Ls : List (List (Option Blk))} {K : St → Prop} {L L' : List (Option Blk)}
theorem DW.reF (htt : TTok P TT) (hrest : DW P fx ops X B lo hi (i + 1) r N T' Ls K) (hb : B.contains i = false := by rfl) (hr : isRd o.op = true := by rfl) (hlh : lo.getD i 0 = hi.getD i 0 := by decide) (hL : Ls[Ls.length - 1 - lo.getD i 0]? = some L := by rfl) (hg : Gok ops.toArray ⟨N, T, L⟩ o := by exact cG)
    (h : ∀ K : St → Prop, K ⟨N, T', L⟩ → stepOp TT o ⟨N, T, L⟩ K := by intro K hK; simp only [go_sem, reduceIte, FX]; first | exact hK | (and_intros <;> first | exact hK | omega | assumption | rfl | decide)) (hp : putOk o.dst T T' := by first | exact ⟨_, rfl⟩ | rfl) : DW P fx ops X B lo hi i (o :: r) N T Ls K := DW.rd htt hb hr hlh hL hg h hp hrest
theorem DW.rmF (htt : TTok P TT) (hrest : DW P fx ops X B lo hi (i + 1) r N T' Ls K) (hb : B.contains i = false := by rfl) (hr : isRd o.op = true := by rfl) (hL : (Ls[Ls.length - 1 - lo.getD i 0]?).map (maskL X 0) = some L := by rfl) (hg : Gok ops.toArray ⟨N, T, L⟩ o := by exact cG)
    (h : ∀ K : St → Prop, K ⟨N, T', L⟩ → stepOp TT o ⟨N, T, L⟩ K := by intro K hK; simp only [go_sem, reduceIte, FX]; first | exact hK | (and_intros <;> first | exact hK | omega | assumption | rfl | decide)) (hp : putOk o.dst T T' := by first | exact ⟨_, rfl⟩ | rfl) : DW P fx ops X B lo hi i (o :: r) N T Ls K := DW.rdm htt hb hr hL hg h hp hrest
theorem DW.bkF (htt : TTok P TT) (hrest : DW P fx ops X B lo hi (i + 1) r N T' (L' :: L :: Ls) K) (hb : B.contains i = true := by rfl) (hg : Gok ops.toArray ⟨N, T, L⟩ o := by exact cG)
    (h : ∀ K : St → Prop, K ⟨N, T', L'⟩ → stepOp TT o ⟨N, T, L⟩ K := by intro K hK; simp only [go_sem, reduceIte, FX]; first | exact hK | (and_intros <;> first | exact hK | omega | assumption | rfl | decide)) (hp : putOk o.dst T T' := by first | exact ⟨_, rfl⟩ | rfl)
    (hs : strad lo hi ops.length Ls.length = false ∨ LEX X L L' := by first | exact .inl rfl | exact .inr (LEX.refl _ _) | exact .inr (LE.app _ _).lex | exact .inr (LEX.of (by simp only [go_sem, List.contains_cons, List.contains_nil, Nat.reduceBEq, Bool.or_false, Bool.false_or, Nat.reduceAdd, true_or, false_or, true_and]; first | done | trivial | (and_intros <;> first | exact ⟨_, rfl⟩ | trivial)))) : DW P fx ops X B lo hi i (o :: r) N T (L :: Ls) K := DW.bl htt hb hg h hp hs hrest
theorem DW.cSF (htt : TTok P TT) {f : FuncId} (hen : Ent P f) (ms : List Md) (keep : Bool) {xs A A' : List IV} {rr : IV} {bs ks : List Nat} {sets : List (Nat × Blk)} {pushes : List Blk} (hrest : DW P fx ops X B lo hi (i + 1) r N T' (L' :: L :: Ls) K)
    (hb : B.contains i = true := by rfl) (hg : Gok ops.toArray ⟨N, T, L⟩ o := by exact cG) (hc : isCall ⟨N, T, L⟩ o = some (f, xs) := by rfl) (hA : exA L TT ms xs = some (A, bs, ks) := by first | rfl | (simp only [go_sem, reduceIte, FX] <;> rfl)) (hS : SCall P f A rr A') (hnd : nodupB ks bs = true := by rfl) (hok : okI rr = true := by rfl) (hkr : (!keep || noTr rr) = true := by first | rfl | (simp only [go_sem]; done))
    (hi' : impA keep L (L.length + (imp L.length rr).2.length) ms xs A' = some (sets, pushes) := by first | rfl | (simp only [go_sem, reduceIte, FX] <;> rfl)) (hsub : ∀ s ∈ sets, s.1 ∈ ks := by (simp; done))
    (hK : ∀ K : St → Prop, K ⟨N, T', L'⟩ → fin o ⟨N, T, L⟩ (imp L.length rr).1 (setL (clearL (if keep = true then L else frzL L bs) ks) sets ++ ((imp L.length rr).2 ++ pushes).map some) K := by intro K hK; simp only [go_sem, reduceIte, FX]; first | exact hK | (and_intros <;> first | exact hK | omega | assumption | rfl | decide))
    (hp : putOk o.dst T T' := by first | exact ⟨_, rfl⟩ | rfl)
    (hs : strad lo hi ops.length Ls.length = false ∨ LEX X L L' := by first | exact .inl rfl | exact .inr (LEX.refl _ _) | exact .inr (LE.app _ _).lex | exact .inr (LEX.of (by simp only [go_sem, List.contains_cons, List.contains_nil, Nat.reduceBEq, Bool.or_false, Bool.false_or, Nat.reduceAdd, true_or, false_or, true_and]; first | done | trivial | (and_intros <;> first | exact ⟨_, rfl⟩ | trivial)))) : DW P fx ops X B lo hi i (o :: r) N T (L :: Ls) K :=
  DW.callS htt hen ms keep hb hg hc hA hS hnd hok hkr hi' hsub hK hp hs hrest
end
end
end Go.Lift
/- The kit's own contracts, aL contracts of this library: what is only read in, plain values out. -/
namespace Go.Lift
open Go Go.RowKit

end Go.Lift
/- Rows whose elements hold trees. -/
namespace Go.Lift
class CellsT {α : Type} (f : α → List IV) (n : outParam Nat) : Prop where
  len : ∀ a, (f a).length = n
  tree : ∀ a, (f a).all isTree = true
section
variable {α : Type} {f : α → List IV} {n : Nat} [h : CellsT f n]
include h
@[go_sem] theorem cellsT_take (l : List α) (k : Nat) : (encs f l).take (k * n) = encs f (l.take k) := encs_take h.len l k
@[go_sem] theorem cellsT_length (l : List α) : (encs f l).length = l.length * n := encs_length h.len l
@[go_sem] theorem cellsT_isTree (l : List α) : (encs f l).all isTree = true := encs_all h.tree l
@[go_sem] theorem cellsT_len1 (a : α) : (f a).length = n := h.len a
end
end Go.Lift
/- Floats that are whole numbers. -/
namespace Go.Lift
open Go Go.RowKit

end Go.Lift
/- Package variables that hold tables of numbers, out of what a row's condition says of them. -/
namespace Go.Lift
open Go Go.RowKit

end Go.Lift
/- A slice is held against nil. -/
namespace Go.Lift
open Go Go.RowKit

def someIV : IV → Prop
  | .tr _ cs => cs ≠ []
  | .sl _ _ _ n => 0 < n
  | _ => False
section
variable {P : Program} {TT : TTab} {fx : Fx} {o : Oper} {K : St → Prop}
end
attribute [go_sem] someIV
end Go.Lift
/- Maps: made, looked up, written. -/
namespace Go.Lift
open Go Go.RowKit Go.Maps

def mcs (es : List (Value × Value)) : List IV := [.tr es.length (es.flatMap fun e => [.v e.1, .v e.2])]
def mblk (t : TypeId) (es : List (Value × Value)) (ver : Nat) : Blk := ⟨false, t, es.length, true, mcs es, ver, false⟩
def mget (es : List (Value × Value)) (k : Value) : Option Value → Prop
  | none => ∀ e ∈ es, e.1 ≠ k
  | some v => (k, v) ∈ es
def isVs : List IV → Option (List Value)
  | [] => some []
  | .v x :: r => (isVs r).map (x :: ·)
  | _ => none
def keyV : IV → Option Value
  | .v x => some x
  | .agg cs => (isVs cs).map fun l => .agg l.toArray
  | _ => none
theorem isVs_sound {cx : Cx} {w : World} : ∀ {cs : List IV} {l ys : List Value}, isVs cs = some l → VXl cx w cs ys → ys = l
  | [], l, ys, h, hv => by simp [isVs] at h; subst h; unfold VXl at hv; exact hv
  | x :: cs, l, ys, h, hv => by
    cases x <;> simp only [isVs] at h <;> first | cases h; done | skip
    rename_i x
    rw [Option.map_eq_some_iff] at h
    obtain ⟨l', h1, rfl⟩ := h
    unfold VXl at hv
    obtain ⟨y, ys', rfl, h2, h3⟩ := hv
    unfold VX at h2
    rw [h2, isVs_sound h1 h3]
theorem keyV_sound {cx : Cx} {w : World} {x : IV} {key y : Value} (h : keyV x = some key) (hv : VX cx w x y) : y = key := by
  cases x <;> simp only [keyV] at h <;> first | cases h; done | skip
  · cases h; unfold VX at hv; exact hv
  · rw [Option.map_eq_some_iff] at h
    obtain ⟨l, h1, rfl⟩ := h
    unfold VX at hv
    obtain ⟨arr, rfl, h2, _⟩ := hv
    rw [← isVs_sound h1 h2]
@[go_sem] theorem rnIVs_mcs (L : List (Option Blk)) (ks : List Nat) (es : List (Value × Value)) : rnIVs L ks (mcs es) = some (mcs es) := rfl
theorem flat_inj : ∀ {a b : List (Value × Value)}, (a.flatMap fun e => [IV.v e.1, IV.v e.2]) = (b.flatMap fun e => [IV.v e.1, IV.v e.2]) → a = b
  | [], [], _ => rfl
  | [], _ :: _, h => by simp at h
  | _ :: _, [], h => by simp at h
  | (x, y) :: a, (u, v) :: b, h => by
    simp only [List.flatMap_cons, List.cons_append, List.nil_append, List.cons.injEq, IV.v.injEq] at h
    rw [h.1, h.2.1, flat_inj h.2.2]
theorem MapOk.es {w : World} {p : Plc} {t : TypeId} {l : List (Value × Value)} {ver : Nat} (h : MapOk w p (mblk t l ver)) : ∃ g es clock, p.v = .map (some g) ∧ w.heap[g]? = some (.map es clock) ∧ es.toList.map (fun e => (e.key, e.val)) = l := by
  obtain ⟨g, es, clock, h1, h2, h3, h4⟩ := h.ex
  refine ⟨g, es, clock, h1, h2, ?_⟩
  simp only [mblk, mcs, List.cons.injEq, IV.tr.injEq, true_and, and_true] at h4
  refine flat_inj ?_
  rw [h4, List.flatMap_map]
theorem MapOk.put {w : World} {p : Plc} {t : TypeId} {l : List (Value × Value)} {ver g clock : Nat} {es : Array MapEntry} (h1 : p.v = .map (some g)) (h2 : w.heap[g]? = some (.map es clock)) (h3 : es.toList.map (fun e => (e.key, e.val)) = l) (ht : (t == 0) = false) : MapOk w p (mblk t l ver) := by
  subst h3
  refine ⟨⟨g, es, clock, h1, h2, by simp [mblk], ?_⟩, ht⟩
  simp [mblk, mcs, List.flatMap_map]
theorem key2_ok {P : Program} {t : TypeId} {f1 f2 : Field} {q1 q2 : IntKind} {a b : Int} (hu : P.underlying t = some (.struct #[f1, f2])) (h1 : P.underlying f1.type = some (.int q1)) (h2 : P.underlying f2.type = some (.int q2)) (c : P.cellsOf t = 2) (c1 : P.cellsOf f1.type = 1) (c2 : P.cellsOf f2.type = 1)
    (o1 : f1.offset = 0) (o2 : f2.offset = 1) (n1 : (f1.name != "_") = true) (n2 : (f2.name != "_") = true) (hk : P.keyType t = true) (hs : 0 < P.types.size) (w1 : (Lit.int q1 a).wf = true) (w2 : (Lit.int q2 b).wf = true) : (keyOf P t (.agg #[.int q1 a, .int q2 b])).isSome = true := by
  obtain ⟨d, hd⟩ : ∃ d, P.types.size = d + 1 := ⟨P.types.size - 1, by omega⟩
  have hf : (Value.agg #[.int q1 a, .int q2 b]).formed P t = true := by simp [Value.formed, hu, c]
  have k1 : P.keyLits (d + 1) f1.type [.int q1 a] = some [.int q1 a] := by simp [Program.keyLits, h1, w1]
  have k2 : P.keyLits (d + 1) f2.type [.int q2 b] = some [.int q2 b] := by simp [Program.keyLits, h2, w2]
  have k3 : P.keyLits (d + 1 + 1) t [.int q1 a, .int q2 b] = some [.int q1 a, .int q2 b] := by
    unfold Program.keyLits
    simp [hu, c, c1, c2, o1, o2, n1, n2, k1, k2]
  unfold keyOf
  rw [hu]
  simp [hk, hf, hd, Value.cells, k3]
section
variable {P : Program} {TT : TTab} {fx : Fx} {cx : Cx} {σ : St} {a : Act} {w : World} {o : Oper} {K : St → Prop}


theorem Mem.map (hm : Mem P fx cx σ w) {k ver v : Nat} {t : TypeId} {l : List (Value × Value)} {y : Value} (hy : VX cx w (.mp k ver) y) (hb : blkAt σ.L k ver = some (mblk t l v)) : ∃ p g es clock, At cx σ k (mblk t l v) p ∧ p.v = .map (some g) ∧ y = .map (some g) ∧ w.heap[g]? = some (.map es clock) ∧ es.toList.map (fun e => (e.key, e.val)) = l ∧ (t == 0) = false := by
  obtain ⟨p, q1, q2, q3⟩ := hm.atv hb
  unfold VX at hy
  obtain ⟨p', h1, g, h2, h3⟩ := hy
  rw [q2] at h1; cases h1
  rcases q3 with ⟨h, _⟩ | ⟨_, _, h⟩ | ⟨_, _, _, h | h | h⟩
  · simp [mblk] at h
  · obtain ⟨g', d, arr, T, h4, _⟩ := h.ex
    rw [h2] at h4; cases h4
  · obtain ⟨g', es, clock, h4, h5, h6⟩ := h.es
    rw [h2] at h4; cases h4
    exact ⟨p, g, es, clock, q1, h2, h3, h5, h6, h.t⟩
  · obtain ⟨g', cap, cur, h4, _⟩ := h.ex
    rw [h2] at h4; cases h4
  · obtain ⟨_, _, h4, _⟩ := h.ex
    rw [h2] at h4; cases h4

theorem IP.mnil {t k e t' : TypeId} {x : Operand} {kk ver : Nat} (ho : o.op = .binOp .eql t x (.const (.map none)) t') (hu : P.underlying t = some (.map k e)) (hx : ev σ x = some (.mp kk ver)) (h2 : fin o σ (.v (.bool false)) σ.L K) : IP P fx o K σ := by
  intro cx a w next QQ hs hn
  have hy := ev_sound hs.s hx
  unfold VX at hy
  obtain ⟨p, _, g, _, e1⟩ := hy
  have e2 : a.eval (.const (.map none)) = .map none := rfl
  have hg : (eqGuard .eql t x (.const (.map none)) (.map (some g)) (.map none)).run P w = .ok () w := eqGuard_run rfl
  exact pure_sound hs (y := .bool false) (by simp [execOp, ho, e1, e2, hg, run_eql_map_nil w t k e (some g) hu]) (by simp [VX]) h2 fun σ1 cx' a' w' hk _ hs' => hn σ1 cx' a' w' hk hs'
theorem IP.mnil0 {t k e t' : TypeId} {x : Operand} (ho : o.op = .binOp .eql t x (.const (.map none)) t') (hu : P.underlying t = some (.map k e)) (hx : ev σ x = some (.v (.map none))) (h2 : fin o σ (.v (.bool true)) σ.L K) : IP P fx o K σ := by
  intro cx a w next QQ hs hn
  have e1 := VX.v_inv (ev_sound hs.s hx)
  have e2 : a.eval (.const (.map none)) = .map none := rfl
  have hg : (eqGuard .eql t x (.const (.map none)) (.map none) (.map none)).run P w = .ok () w := eqGuard_run rfl
  exact pure_sound hs (y := .bool true) (by simp [execOp, ho, e1, e2, hg, run_eql_map_nil w t k e none hu]) (by simp [VX]) h2 fun σ1 cx' a' w' hk _ hs' => hn σ1 cx' a' w' hk hs'
theorem IP.mmake {t : TypeId} (ht : (t == 0) = false) (ho : o.op = .makeMap t none) (h2 : fin o σ (.mp σ.L.length 0) (σ.L ++ [some (mblk t [] 0)]) K) : IP P fx o K σ := by
  intro cx a w next QQ hs hn
  have hf := Fr.alloc_nil w (.map #[] 0)
  have hR := hs.m.heapEq hf
  have hm := hs.m.push hf (mblk t [] 0) ⟨.map (some w.heap.size), 0⟩ (.inr (.inr ⟨rfl, rfl, rfl, .inl (MapOk.put rfl (heap_alloc_at _ _) rfl ht)⟩)) rfl (by
    intro x hx bb o hh
    simp [Blk.rng] at hx
    subst hx
    exact Nat.le_of_eq hh.symm)
  have hle : cx.le (cx.add σ.L.length (mblk t [] 0).ver ⟨.map (some w.heap.size), 0⟩) := Cx.add_le (.inl (hs.m.none_at _))
  refine fin_sound hs.s (y := .map (some w.heap.size)) ?_ hle hm hR ?_ h2 fun σ1 cx' a' w' hk _ hs' => hn σ1 cx' a' w' hk hs'
  · simp [execOp, ho, Instr.makeMap]
  · unfold VX
    exact ⟨_, Cx.add_get _ _ _ _, _, rfl, rfl⟩
theorem IP.mlook {t k e : TypeId} {x y : Operand} {kk ver v : Nat} {kv : IV} {key z : Value} {l : List (Value × Value)} {r : Option Value} (K1 : Keyed P k) (ho : o.op = .lookup t x y true) (hu : P.underlying t = some (.map k e)) (hz : ∀ w, (zeroValue e).run P w = .ok z w)
    (hx : ev σ x = some (.mp kk ver)) (hy : ev σ y = some kv) (hkv : keyV kv = some key) (hb : blkAt σ.L kk ver = some (mblk t l v)) (hk : (keyOf P k key).isSome = true) (hl : ∀ e ∈ l, (keyOf P k e.1).isSome = true) (hr : ∀ r', mget l key r' → r' = r)
    (h2 : fin o σ (.tup [.v (r.getD z), .v (.bool r.isSome)]) σ.L K) : IP P fx o K σ := by
  intro cx a w next QQ hs hn
  obtain ⟨p, g, es, clock, q1, q2, q3, q4, q5, qt⟩ := hs.m.map (ev_sound hs.s hx) hb
  have q6 := keyV_sound hkv (ev_sound hs.s hy)
  obtain ⟨kl, hkl⟩ := Option.isSome_iff_exists.1 hk
  have hes : ∀ e ∈ es.toList, ∃ l, keyOf P k e.key = some l := fun e he => Option.isSome_iff_exists.1 (hl (e.key, e.val) (by rw [← q5]; exact List.mem_map.2 ⟨e, he, rfl⟩))
  refine pure_sound hs (y := .tuple #[r.getD z, .bool r.isSome]) ?_ (by simp [VX, VXl]) h2 fun σ1 cx' a' w' hk _ hs' => hn σ1 cx' a' w' hk hs'
  rcases K1.find w hkl es.toList hes with ⟨h1, h2⟩ | ⟨j, e0, h1, h2, h3⟩
  · have hr := hr none (by
      intro e he; rw [← q5] at he; obtain ⟨e', he', rfl⟩ := List.mem_map.1 he; exact h2 e' he')
    subst hr
    simp [execOp, ho, q3, q6, Instr.lookup, run_underlying hu, MapKept.run_getObj_map q4, K1.check w _ hkl, h1, hz w, Result.andThen]
  · have hr := hr (some e0.val) (by
      show (key, e0.val) ∈ l
      rw [← q5, ← h3]; exact List.mem_map.2 ⟨e0, List.mem_of_getElem? h2, rfl⟩)
    subst hr
    simp [execOp, ho, q3, q6, Instr.lookup, run_underlying hu, MapKept.run_getObj_map q4, K1.check w _ hkl, h1, Result.andThen]
theorem IP.mlook0 {t k e : TypeId} {x y : Operand} {kv : IV} {key z : Value} (K1 : Keyed P k) (ho : o.op = .lookup t x y true) (hu : P.underlying t = some (.map k e)) (hz : ∀ w, (zeroValue e).run P w = .ok z w)
    (hx : ev σ x = some (.v (.map none))) (hy : ev σ y = some kv) (hkv : keyV kv = some key) (hk : (keyOf P k key).isSome = true)
    (h2 : fin o σ (.tup [.v z, .v (.bool false)]) σ.L K) : IP P fx o K σ := by
  intro cx a w next QQ hs hn
  have q3 := VX.v_inv (ev_sound hs.s hx)
  have q6 := keyV_sound hkv (ev_sound hs.s hy)
  obtain ⟨kl, hkl⟩ := Option.isSome_iff_exists.1 hk
  refine pure_sound hs (y := .tuple #[z, .bool false]) ?_ (by simp [VX, VXl]) h2 fun σ1 cx' a' w' hk _ hs' => hn σ1 cx' a' w' hk hs'
  have h1 : (Instr.findKey k key []).run P w = .ok none w := by
    rcases K1.find w hkl [] (by simp) with ⟨h1, _⟩ | ⟨j, e0, _, h2, _⟩
    · exact h1
    · simp at h2
  simp [execOp, ho, q3, q6, Instr.lookup, run_underlying hu, K1.check w _ hkl, h1, hz w, Result.andThen]
theorem IP.mput {t k e : TypeId} {x y u : Operand} {kk ver v : Nat} {kv : IV} {key val : Value} {l : List (Value × Value)} (K1 : Keyed P k) (ho : o.op = .mapUpdate t x y u) (hu : P.underlying t = some (.map k e))
    (hx : ev σ x = some (.mp kk ver)) (hy : ev σ y = some kv) (hkv : keyV kv = some key) (hv : ev σ u = some (.v val)) (hb : blkAt σ.L kk ver = some (mblk t l v)) (hk : (keyOf P k key).isSome = true) (hl : ∀ e ∈ l, (keyOf P k e.1).isSome = true) (hr : ∀ e ∈ l, e.1 ≠ key)
    (hd : o.dst = none) (h2 : K { σ with L := σ.L.set kk (some (mblk t (l ++ [(key, val)]) v)) }) : IP P fx o K σ := by
  intro cx a w next QQ hs hn
  obtain ⟨p, g, es, clock, q1, q2, q3, q4, q5, qt⟩ := hs.m.map (ev_sound hs.s hx) hb
  have q6 := keyV_sound hkv (ev_sound hs.s hy)
  have q7 := VX.v_inv (ev_sound hs.s hv)
  obtain ⟨kl, hkl⟩ := Option.isSome_iff_exists.1 hk
  have hes : ∀ e ∈ es.toList, ∃ l, keyOf P k e.key = some l := fun e he => Option.isSome_iff_exists.1 (hl (e.key, e.val) (by rw [← q5]; exact List.mem_map.2 ⟨e, he, rfl⟩))
  have h1 : (Instr.findKey k key es.toList).run P w = .ok none w := by
    rcases K1.find w hkl es.toList hes with ⟨h1, h2⟩ | ⟨j, e0, h1, h2, h3⟩
    · exact h1
    · exact absurd h3 (hr (e0.key, e0.val) (by rw [← q5]; exact List.mem_map.2 ⟨e0, List.mem_of_getElem? h2, rfl⟩))
  let w' := ChangeMaps.setBlock w g (.map (es.push ⟨key, val, clock⟩) (clock + 1))
  have hrun : (execOp a.eval o).run P w = .ok .skip w' := by
    simp [execOp, ho, q3, q6, q7, Instr.mapUpdate, run_underlying hu, MapKept.run_getObj_map q4, K1.check w false hkl, h1, MapKept.run_setObj_map _ q4, Result.andThen, ChangeMaps.setBlock, w']
  have hrng : (mblk t l v).rng p = [.blk g] := by simp [Blk.rng, q2]
  have hlt := lt_of_heap q4
  have hfr : Fr w w' ((mblk t l v).rng p) := by
    refine ⟨rfl, rfl, rfl, by simp [w', ChangeMaps.setBlock], fun b hb hno => ?_, fun b arr T fr hb => ?_⟩
    · simp only [w', ChangeMaps.setBlock, Array.getElem?_setIfInBounds]
      rw [if_neg]
      rintro rfl
      exact hno 0 ⟨.blk g, by simp [hrng], rfl⟩
    · refine ⟨arr, ?_, rfl, fun _ _ => rfl⟩
      simp only [w', ChangeMaps.setBlock, Array.getElem?_setIfInBounds]
      rw [if_neg]
      · exact hb
      · rintro rfl
        rw [q4] at hb; cases hb
  have hR : HeapEq cx.R w w' := fun bb hbb => hfr.hblk bb (hs.m.rlt bb hbb) fun oo ⟨x, hx, hh⟩ => (hs.m.nor kk _ p q1 x hx bb oo hh).1 rfl hbb
  have hheap : w'.heap[g]? = some (.map (es.push ⟨key, val, clock⟩) (clock + 1)) := by
    simp [w', ChangeMaps.setBlock, hlt]
  have hok : BlkOk P cx w' p (mblk t (l ++ [(key, val)]) v) := .inr (.inr ⟨rfl, rfl, rfl, .inl (MapOk.put q2 hheap (by simp [q5]) qt)⟩)
  have hm := hs.m.turn q1 rfl hfr (mblk t (l ++ [(key, val)]) v) p (.inl ⟨rfl, rfl⟩) cx.R (fun _ h => h) (fun bb h => .inl h) (by rw [show (mblk t (l ++ [(key, val)]) v).ver = (mblk t l v).ver from rfl, Cx.add_same q1.2]; exact hok) (by
    intro x hx bb oo hh
    have hx : x ∈ (mblk t l v).rng p := by rw [hrng]; simpa [Blk.rng, q2] using hx
    exact ⟨.inl ⟨x, hx, hh⟩, fun _ => (hs.m.nor kk _ p q1 x hx bb oo hh).1 rfl, fun h => by cases h⟩)
  rw [show ({ cx.add kk (mblk t (l ++ [(key, val)]) v).ver p with R := cx.R } : Cx) = cx from Cx.add_same q1.2] at hm
  unfold Oper.wp
  rw [hrun]
  show next (a.put o.dst undef) w'
  rw [hd]
  exact hn _ cx _ _ h2 ⟨hm, hs.s.mono (fun _ _ h => h) rfl (Cx.le_refl _) hR⟩

section
variable {ops : Array Oper} {rs : List Oper} {N d : Nat} {T : List (Nat × IV)} {L : List (Option Blk)}
theorem fin_to {v : IV} {L' : List (Option Blk)} (hd : o.dst = some d) (hdN : d < N) (h : K ⟨N, (d, v) :: T, L'⟩) : fin o ⟨N, T, L⟩ v L' K := by
  unfold fin
  rw [hd]
  exact ⟨hdN, h⟩
theorem IL.mnil {t k e t' : TypeId} {x : Operand} {kk ver : Nat} (hu : P.underlying t = some (.map k e)) (hr : IL P fx ops rs K ⟨N, (d, .v (.bool false)) :: T, L⟩) (hg : Gok ops ⟨N, T, L⟩ o := by exact .inl rfl) (ho : o.op = .binOp .eql t x (.const (.map none)) t' := by rfl) (hx : ev ⟨N, T, L⟩ x = some (.mp kk ver) := by rfl) (hd : o.dst = some d := by rfl) (hdN : d < N := by exact Nat.le_of_ble_eq_true rfl) : IL P fx ops (o :: rs) K ⟨N, T, L⟩ := IL.ok hg (IP.mnil ho hu hx (fin_to hd hdN hr))
theorem IL.mnil0 {t k e t' : TypeId} {x : Operand} (hu : P.underlying t = some (.map k e)) (hr : IL P fx ops rs K ⟨N, (d, .v (.bool true)) :: T, L⟩) (hg : Gok ops ⟨N, T, L⟩ o := by exact .inl rfl) (ho : o.op = .binOp .eql t x (.const (.map none)) t' := by rfl) (hx : ev ⟨N, T, L⟩ x = some (.v (.map none)) := by rfl) (hd : o.dst = some d := by rfl) (hdN : d < N := by exact Nat.le_of_ble_eq_true rfl) : IL P fx ops (o :: rs) K ⟨N, T, L⟩ := IL.ok hg (IP.mnil0 ho hu hx (fin_to hd hdN hr))
theorem IL.mmake {t : TypeId} (hr : IL P fx ops rs K ⟨N, (d, .mp L.length 0) :: T, L ++ [some (mblk t [] 0)]⟩) (hg : Gok ops ⟨N, T, L⟩ o := by exact .inl rfl) (ho : o.op = .makeMap t none := by rfl) (hd : o.dst = some d := by rfl) (hdN : d < N := by exact Nat.le_of_ble_eq_true rfl) (ht : (t == 0) = false := by rfl) : IL P fx ops (o :: rs) K ⟨N, T, L⟩ := IL.ok hg (IP.mmake ht ho (fin_to hd hdN hr))
end
section
variable {ops : List Oper} {X B lo hi : List Nat} {i N d : Nat} {rs : List Oper} {T : List (Nat × IV)} {Ls : List (List (Option Blk))} {L : List (Option Blk)}
theorem fin_at {T2 T3 : List (Nat × IV)} {u v : IV} (hd : o.dst = some d) (hdN : d < N) (hp : putT o.dst (some v) T2 = some T3) (he : u = v) : fin o ⟨N, T2, L⟩ u L (fun σ1 => σ1 = ⟨N, T3, L⟩) := by
  subst he
  unfold fin
  unfold putT at hp
  rw [hd] at hp ⊢
  simp at hp
  subst hp
  exact ⟨hdN, rfl⟩
theorem ev_slots {T2 : List (Nat × IV)} {x : Operand} {v : IV} (ha : ∀ t ∈ slotsOf ops o, ∀ x, lk T t = some x → lk T2 t = some x) (hm : x ∈ opds o.op) (h : ev ⟨N, T, L⟩ x = some v) : ev ⟨N, T2, L⟩ x = some v := kn_of_slots (N := N) (L := L) (L2 := L) ha x hm v h
theorem DW.mlook {t k e : TypeId} {x y : Operand} {kk ver v : Nat} {kv : IV} {key z : Value} {l : List (Value × Value)} {r : Option Value} (K1 : Keyed P k) (hu : P.underlying t = some (.map k e)) (hz : ∀ w, (zeroValue e).run P w = .ok z w)
    (hk : (keyOf P k key).isSome = true) (hl : ∀ e ∈ l, (keyOf P k e.1).isSome = true) (hr : ∀ r', mget l key r' → r' = r) (hrest : DW P fx ops X B lo hi (i + 1) rs N ((d, .tup [.v (r.getD z), .v (.bool r.isSome)]) :: T) Ls K)
    (hb : B.contains i = false := by rfl) (hlh : lo.getD i 0 = hi.getD i 0 := by decide) (hL : Ls[Ls.length - 1 - lo.getD i 0]? = some L := by rfl) (hg : Gok ops.toArray ⟨N, T, L⟩ o := by exact .inl rfl) (ho : o.op = .lookup t x y true := by rfl) (hd : o.dst = some d := by rfl) (hdN : d < N := by exact Nat.le_of_ble_eq_true rfl)
    (hx : ev ⟨N, T, L⟩ x = some (.mp kk ver) := by rfl) (hy : ev ⟨N, T, L⟩ y = some kv := by rfl) (hkv : keyV kv = some key := by rfl) (hbl : blkAt L kk ver = some (mblk t l v) := by rfl) : DW P fx ops X B lo hi i (o :: rs) N T Ls K := by
  refine ⟨T, .tup [.v (r.getD z), .v (.bool r.isSome)], _, fun _ => rfl, by rw [hd]; rfl, ?_⟩
  rw [if_neg (by rw [hb]; simp)]
  refine ⟨fun L2 _ hL2 T2 ha T3 hp2 => ?_, hrest⟩
  have hL2 := hL2 hlh
  rw [List.getD_eq_getElem?_getD, hL] at hL2
  obtain rfl : L2 = L := hL2
  exact IG.ok (hg.slots ha) (IP.mlook K1 ho hu hz (ev_slots ha (by simp [ho, opds]) hx) (ev_slots ha (by simp [ho, opds]) hy) hkv hbl hk hl hr (fin_at hd hdN hp2 rfl))
theorem DW.mlookN {t k e : TypeId} {x y : Operand} {kk ver v : Nat} {kv : IV} {key z : Value} {l : List (Value × Value)} (K1 : Keyed P k) (hu : P.underlying t = some (.map k e)) (hz : ∀ w, (zeroValue e).run P w = .ok z w)
    (hk : (keyOf P k key).isSome = true) (hl : ∀ e ∈ l, (keyOf P k e.1).isSome = true) (hr : ∀ r', mget l key r' → r' = none) (hrest : DW P fx ops X B lo hi (i + 1) rs N ((d, .tup [.v z, .v (.bool false)]) :: T) Ls K)
    (hb : B.contains i = false := by rfl) (hlh : lo.getD i 0 = hi.getD i 0 := by decide) (hL : Ls[Ls.length - 1 - lo.getD i 0]? = some L := by rfl) (hg : Gok ops.toArray ⟨N, T, L⟩ o := by exact .inl rfl) (ho : o.op = .lookup t x y true := by rfl) (hd : o.dst = some d := by rfl) (hdN : d < N := by exact Nat.le_of_ble_eq_true rfl)
    (hx : ev ⟨N, T, L⟩ x = some (.mp kk ver) := by rfl) (hy : ev ⟨N, T, L⟩ y = some kv := by rfl) (hkv : keyV kv = some key := by rfl) (hbl : blkAt L kk ver = some (mblk t l v) := by rfl) : DW P fx ops X B lo hi i (o :: rs) N T Ls K :=
  DW.mlook (r := none) K1 hu hz hk hl hr hrest hb hlh hL hg ho hd hdN hx hy hkv hbl
theorem DW.mlookS {t k e : TypeId} {x y : Operand} {kk ver v : Nat} {kv : IV} {key z u : Value} {l : List (Value × Value)} (K1 : Keyed P k) (hu : P.underlying t = some (.map k e)) (hz : ∀ w, (zeroValue e).run P w = .ok z w)
    (hk : (keyOf P k key).isSome = true) (hl : ∀ e ∈ l, (keyOf P k e.1).isSome = true) (hr : ∀ r', mget l key r' → r' = some u) (hrest : DW P fx ops X B lo hi (i + 1) rs N ((d, .tup [.v u, .v (.bool true)]) :: T) Ls K)
    (hb : B.contains i = false := by rfl) (hlh : lo.getD i 0 = hi.getD i 0 := by decide) (hL : Ls[Ls.length - 1 - lo.getD i 0]? = some L := by rfl) (hg : Gok ops.toArray ⟨N, T, L⟩ o := by exact .inl rfl) (ho : o.op = .lookup t x y true := by rfl) (hd : o.dst = some d := by rfl) (hdN : d < N := by exact Nat.le_of_ble_eq_true rfl)
    (hx : ev ⟨N, T, L⟩ x = some (.mp kk ver) := by rfl) (hy : ev ⟨N, T, L⟩ y = some kv := by rfl) (hkv : keyV kv = some key := by rfl) (hbl : blkAt L kk ver = some (mblk t l v) := by rfl) : DW P fx ops X B lo hi i (o :: rs) N T Ls K :=
  DW.mlook (r := (some u)) K1 hu hz hk hl hr hrest hb hlh hL hg ho hd hdN hx hy hkv hbl
theorem DW.mlook0 {t k e : TypeId} {x y : Operand} {kv : IV} {key z : Value} (K1 : Keyed P k) (hu : P.underlying t = some (.map k e)) (hz : ∀ w, (zeroValue e).run P w = .ok z w)
    (hk : (keyOf P k key).isSome = true) (hrest : DW P fx ops X B lo hi (i + 1) rs N ((d, .tup [.v z, .v (.bool false)]) :: T) Ls K)
    (hb : B.contains i = false := by rfl) (hlh : lo.getD i 0 = hi.getD i 0 := by decide) (hL : Ls[Ls.length - 1 - lo.getD i 0]? = some L := by rfl) (hg : Gok ops.toArray ⟨N, T, L⟩ o := by exact .inl rfl) (ho : o.op = .lookup t x y true := by rfl) (hd : o.dst = some d := by rfl) (hdN : d < N := by exact Nat.le_of_ble_eq_true rfl)
    (hx : ev ⟨N, T, L⟩ x = some (.v (.map none)) := by rfl) (hy : ev ⟨N, T, L⟩ y = some kv := by rfl) (hkv : keyV kv = some key := by rfl) : DW P fx ops X B lo hi i (o :: rs) N T Ls K := by
  refine ⟨T, .tup [.v z, .v (.bool false)], _, fun _ => rfl, by rw [hd]; rfl, ?_⟩
  rw [if_neg (by rw [hb]; simp)]
  refine ⟨fun L2 _ hL2 T2 ha T3 hp2 => ?_, hrest⟩
  have hL2 := hL2 hlh
  rw [List.getD_eq_getElem?_getD, hL] at hL2
  obtain rfl : L2 = L := hL2
  exact IG.ok (hg.slots ha) (IP.mlook0 K1 ho hu hz (ev_slots ha (by simp [ho, opds]) hx) (ev_slots ha (by simp [ho, opds]) hy) hkv hk (fin_at hd hdN hp2 rfl))
theorem DW.mput {t k e : TypeId} {x y u : Operand} {kk ver v : Nat} {kv : IV} {key val : Value} {l : List (Value × Value)} (K1 : Keyed P k) (hu : P.underlying t = some (.map k e))
    (hk : (keyOf P k key).isSome = true) (hl : ∀ e ∈ l, (keyOf P k e.1).isSome = true) (hr : ∀ e ∈ l, e.1 ≠ key) (hrest : DW P fx ops X B lo hi (i + 1) rs N T (L.set kk (some (mblk t (l ++ [(key, val)]) v)) :: L :: Ls) K)
    (hb : B.contains i = true := by rfl) (hg : Gok ops.toArray ⟨N, T, L⟩ o := by exact .inl rfl) (ho : o.op = .mapUpdate t x y u := by rfl) (hd : o.dst = none := by rfl)
    (hx : ev ⟨N, T, L⟩ x = some (.mp kk ver) := by rfl) (hy : ev ⟨N, T, L⟩ y = some kv := by rfl) (hkv : keyV kv = some key := by rfl) (hv : ev ⟨N, T, L⟩ u = some (.v val) := by rfl) (hbl : blkAt L kk ver = some (mblk t l v) := by rfl)
    (hs : strad lo hi ops.length Ls.length = false ∨ LEX X L (L.set kk (some (mblk t (l ++ [(key, val)]) v))) := by first | exact .inl rfl | exact .inl (by decide)) : DW P fx ops X B lo hi i (o :: rs) N T (L :: Ls) K := by
  refine ⟨T, default, T, fun _ => rfl, by rw [hd]; rfl, ?_⟩
  rw [if_pos hb]
  refine ⟨_, fun T2 ha T3 hp2 => ?_, hs, hrest⟩
  have e : T3 = T2 := by unfold putT at hp2; rw [hd] at hp2; simp at hp2; exact hp2.symm
  subst e
  exact IG.ok (hg.slots ha) (IP.mput K1 ho hu (ev_slots ha (by simp [ho, opds]) hx) (ev_slots ha (by simp [ho, opds]) hy) hkv (ev_slots ha (by simp [ho, opds]) hv) hbl hk hl hr hd rfl)
end
end
end Go.Lift
/- A constant text's bytes: a literal's row, and the conversion behind it. -/
namespace Go.Lift
open Go Go.RowKit

section
variable {P : Program} {TT : TTab} {fx : Fx}
theorem put_eval (a : Act) (d : Nat) (v : Value) (h : d < a.tmps.size) : (a.put (some d) v).eval (.tmp d) = v := by
  simp [Act.put, Act.eval, h]
theorem IL.bytesConst (htt : TTok P TT) {ops : Array Oper} {l : List Oper} {K : St → Prop} {σ : St} {o1 o2 : Oper} {t e : TypeId} {d1 d2 len : Nat} {ps : Array (Nat × Operand)} {i ie : TI} {cs : List IV}
    (hg1 : o1.guard = none) (hg2 : o2.guard = none) (ho1 : o1.op = .buildSlice t len ps) (hd1 : o1.dst = some d1) (ho2 : o2.op = .convert t t (.tmp d1)) (hd2 : o2.dst = some d2)
    (h1 : TT t = some i) (hd : i.desc = .slice e) (he : TT e = some ie) (hnum : ie.num = some .u8) (hc : litCells ie.size 0 ps.toList σ = some cs) (hl1 : len ≤ 1000) (hl2 : ie.size ≤ 1000) (hps : ps.size = len) (htr : cs.all isTree = true) (hN1 : d1 < σ.N) (hN2 : d2 < σ.N)
    (hr : IL P fx ops l K ⟨σ.N, (d2, .tr len cs) :: (d1, .tr len cs) :: σ.T, σ.L⟩) : IL P fx ops (o1 :: o2 :: l) K σ := by
  intro cx a w QQ hs hn
  have hu := slice_under (htt _ _ h1) hd
  have hie := htt _ _ he
  obtain ⟨j, hj, hj2, hj3, z, hz1, hz2⟩ := hie.info
  have hzl : z.cells.size = ie.size := by have := hz2.length; rw [hie.zlen] at this; simpa using this
  let init : Array Value := (Array.range (len * ie.size)).map (z.cells[· % z.cells.size]!)
  obtain ⟨arr, us, u1, u2, u3, u4, u5⟩ := fill_lit (a := a) (cells := init) hs.s hc (by simp [init, hps])
  have harr : arr.toList = us := by
    rw [u2]
    have e1 : (0 + ps.toList.length) * ie.size = init.toList.length := by simp [init, hps]
    rw [e1]; simp
  have hrun : (Instr.buildSlice t len (ps.map fun (i, x) => (i, a.eval x))).run P w = .ok (.slice (some ⟨w.heap.size, 0, none⟩) len len) (w.alloc (.cells arr e)) := by
    have hlim : len * ie.size ≤ 16777216 := by
      have := Nat.mul_le_mul hl1 hl2
      omega
    have hmap : (ps.map fun (i, x) => (i, a.eval x)).toList = ps.toList.map fun p => (p.1, a.eval p.2) := by
      rw [Array.toList_map]
    unfold Instr.buildSlice
    simp only [Sem.run_bind, run_underlying hu, Result.andThen_ok, sizeOf_run hie]
    rw [if_neg (by simp; omega)]
    by_cases hz : len * ie.size = 0
    · simp only [hz, if_true, Sem.run_pure, Result.andThen_ok, Sem.run_bind]
      have : init = (Array.range 0).map ((#[] : Array Value)[· % (#[] : Array Value).size]!) := by simp [init, hz]
      rw [hmap, ← this, u1]
      simp [newRow]
    · simp only [hz, if_false, Sem.run_bind, run_zeroValue hj hz1, Result.andThen_ok, Sem.run_pure]
      rw [hmap]
      show ((match Instr.fill (fun i => some (i * ie.size, ie.size)) init (ps.toList.map fun p => (p.1, a.eval p.2)) with | some cells => _ | _ => _) : Sem Value).run P w = _
      rw [u1]
      simp [newRow]
  have hx : TRl cx.R w cs arr.toList := by
    rw [harr]
    exact TRl_of_tree u3 htr
  have hu8 : P.underlying e = some (.int .u8) := hie.num _ hnum
  let v : Value := .slice (some ⟨w.heap.size, 0, none⟩) len len
  have hrun1 : (execOp a.eval o1).run P w = .ok (.value v) (w.alloc (.cells arr e)) := by simp [execOp, ho1, hrun, v]
  refine wpList_plain hg1 fun K1 hK1 => ?_
  unfold Oper.wp
  rw [hrun1]
  show K1 (a.put o1.dst v) (w.alloc (.cells arr e))
  refine hK1 _ _ ?_
  refine wpList_plain hg2 fun K2 hK2 => ?_
  have hev : (a.put o1.dst v).eval (.tmp d1) = v := by rw [hd1]; exact put_eval a d1 v (by rw [hs.s.len]; exact hN1)
  have hrun2 : (execOp (a.put o1.dst v).eval o2).run P (w.alloc (.cells arr e)) = .ok (.value v) (w.alloc (.cells arr e (arr.size, arr.size + 1))) := by
    simp [execOp, ho2, hev, v, Lib.run_convert_bytes_const w t e arr len len hu hu8]
  unfold Oper.wp
  rw [hrun2]
  show K2 ((a.put o1.dst v).put o2.dst v) _
  refine hK2 _ _ ?_
  let w' := w.alloc (.cells arr e (arr.size, arr.size + 1))
  have hf : Fr w w' [] := Fr.alloc_nil w (.cells arr e (arr.size, arr.size + 1))
  have hm := hs.m.grow hf (fun bb => cx.R bb ∨ bb = w.heap.size) (fun _ h => .inl h) (fun bb h => h.imp (fun h => h) (fun h => ⟨by omega, by subst h; show w.heap.size < (w.heap.push _).size; simp⟩))
  have hv : VX { cx with R := fun bb => cx.R bb ∨ bb = w.heap.size } w' (.tr len cs) v := by
    unfold VX TR
    refine ⟨_, _, rfl, Nat.le_refl _, .inr ⟨w.heap.size, 0, rfl, .inr rfl, TRm.of_get fun i x hx' => ?_⟩⟩
    obtain ⟨y, g1, g2, g3⟩ := hx.get i x hx'
    have hh : w'.heap[w.heap.size]? = some (.cells arr e (arr.size, arr.size + 1)) := heap_alloc_at w _
    refine ⟨y, ?_, TR.mono (fun _ h => .inl h) (hs.m.heapEq hf) _ _ g2, g3⟩
    rw [Nat.zero_add, cell_of_row w' w.heap.size i _ e _ hh]
    simpa using g1
  have ht1 := (hs.s.mono (σ' := σ) (fun _ _ h => h) rfl (cx' := { cx with R := fun bb => cx.R bb ∨ bb = w.heap.size }) ⟨fun _ _ _ h => h, fun _ h => .inl h⟩ (hs.m.heapEq hf)).put d1 hN1 (.tr len cs) v hv
  have ht2 := ht1.put d2 hN2 (.tr len cs) v hv
  rw [hd1, hd2]
  exact hr _ _ _ QQ ⟨hm.sameL rfl, ht2⟩ hn
end
end Go.Lift
/- A range over a function: the loop's body is walked aL any code is. -/
namespace Go.Lift
open Go Go.RowKit

section
variable {P : Program} {TT : TTab} {fx : Fx} {cx : Cx} {σ : St} {w : World}

theorem Mem.rebase (h : Mem P fx cx σ w) {w' : World} (m : Nat) (rd : Option Nat) (hsz : w.heap.size ≤ w'.heap.size) (hR : HeapEq cx.R w w') (hk : ∀ k b p, At cx σ k b p → ∀ x ∈ b.rng p, Keeps w w' x) :
    ∃ os, (∀ b o, Owns os b o → ∃ k bl p, At cx σ k bl p ∧ ∃ x ∈ bl.rng p, x.has b o) ∧ Mem P ⟨w', cx.R, os, fun k => if k < m then cx.pl k 0 else none, rd⟩ cx σ w' := by
  let os : List OwnR := (List.range σ.L.length).flatMap fun k => match σ.L[k]? with
    | some (some b) => match cx.pl k b.ver with
      | some p => b.rng p
      | none => []
    | _ => []
  have hin : ∀ k b p, At cx σ k b p → ∀ x ∈ b.rng p, x ∈ os := fun k b p ha x hx => by
    refine List.mem_flatMap.2 ⟨k, List.mem_range.2 (List.getElem?_eq_some_iff.1 ha.1).1, ?_⟩
    simp only [ha.1, ha.2]; exact hx
  refine ⟨os, fun b o ⟨x, hx, hh⟩ => ?_, ⟨fun k b hb => ?_, h.plok, h.dis, h.nor, fun k b p ha x hx bb o hh => .inl ⟨x, hin k b p ha x hx, hh⟩, fun b hb => Nat.lt_of_lt_of_le (h.rlt b hb) hsz, fun b hb => .inl hb, fun b hb => hb, Fr.refl _ _, fun k p hp => ?_⟩⟩
  · obtain ⟨k, _, hx⟩ := List.mem_flatMap.1 hx
    split at hx
    · rename_i b' hb'
      split at hx
      · rename_i p hp; exact ⟨k, b', p, ⟨hb', hp⟩, x, hx, hh⟩
      · simp at hx
    · simp at hx
  · obtain ⟨p, h1, h2⟩ := h.blk k b hb
    exact ⟨p, h1, h2.mono (Cx.le_refl _) hR (hk k b p ⟨hb, h1⟩)⟩
  · simp only at hp
    split at hp
    · exact hp
    · cases hp
theorem Mem.unbase (h : Mem P fx cx σ w) {w1 w2 : World} {os : List OwnR} {rd : Option Nat} {m : Nat} (hos : ∀ b o, Owns os b o → ∃ k bl p, At cx σ k bl p ∧ ∃ x ∈ bl.rng p, x.has b o) (hfr : Fr fx.w0 w1 fx.os) {cx2 : Cx} {σ2 : St}
    (h2 : Mem P ⟨w1, cx.R, os, fun k => if k < m then cx.pl k 0 else none, rd⟩ cx2 σ2 w2) (hm : ∀ k p, fx.par k = some p → k < m) : Mem P fx cx2 σ2 w2 := by
  have hown : ∀ b o, Owns os b o → Owns fx.os b o ∨ fx.w0.heap.size ≤ b := fun b o ho => by
    obtain ⟨k, bl, p, ha, x, hx, hh⟩ := hos b o ho
    exact h.wit k bl p ha x hx b o hh
  refine ⟨h2.blk, h2.plok, h2.dis, h2.nor, fun k b p ha x hx bb o hh => ?_, h2.rlt, fun b hb => ?_, fun b hb => h2.r0 b (h.r0 b hb), hfr.trans h2.fr hown, fun k p hp => ?_⟩
  · rcases h2.wit k b p ha x hx bb o hh with ho | ho
    · exact hown bb o ho
    · exact .inr (Nat.le_trans hfr.hsize ho)
  · rcases h2.rin b hb with ho | ho | ho
    · exact h.rin b ho
    · by_cases hf : fx.w0.heap.size ≤ b
      · exact .inr (.inr hf)
      · exact .inr (.inl fun o => (hown b o (ho o)).resolve_right hf)
    · exact .inr (.inr (Nat.le_trans hfr.hsize ho))
  · have := hm k p hp
    exact h2.par k p (by simp only [if_pos this]; exact h.par k p hp)

def Oth (cx : Cx) (σ : St) (l : Nat) : Prop := ¬ cx.R l ∧ ∀ k b p, At cx σ k b p → ∀ x ∈ b.rng p, ∀ o, ¬ x.has l o
theorem keeps_put {w : World} {l : Nat} {o o' : Obj} {x : OwnR} (h : ∀ o, ¬ x.has l o) (hh : w.heap[l]? = some o') (hc : ∀ a t f, o' ≠ .cells a t f) : Keeps w (w.putObj l o) x := by
  cases x with
  | blk g => exact World.putObj_heap_other fun e => h 0 e.symm
  | rng g d len =>
    refine fun arr T fr hg => ⟨arr, (World.putObj_heap_other ?_).trans hg, rfl, fun _ _ => rfl⟩
    rintro rfl
    rw [hh] at hg; cases hg; exact hc _ _ _ rfl
theorem heapEq_put {R : Nat → Prop} {w : World} {l : Nat} {o : Obj} (h : ¬ R l) : HeapEq R w (w.putObj l o) := fun b hb => World.putObj_heap_other fun e => h (e ▸ hb)
theorem fr_put {w0 w : World} {os : List OwnR} {l : Nat} {o o' : Obj} (h : Fr w0 w os) (hl : w0.heap.size ≤ l) (hh : w.heap[l]? = some o') (hc : ∀ a t f, o' ≠ .cells a t f) : Fr w0 (w.putObj l o) os := by
  refine h.trans (os1 := [.blk l]) ⟨rfl, rfl, rfl, by simp [World.putObj], fun b hb hn => World.putObj_heap_other fun e => hn 0 ⟨.blk l, by simp, e⟩, fun b arr T fr hg => ?_⟩ fun b o hb => ?_
  · have : b ≠ l := by rintro rfl; rw [hh] at hg; cases hg; exact hc _ _ _ rfl
    exact ⟨arr, (World.putObj_heap_other this).trans hg, rfl, fun _ _ => rfl⟩
  · obtain ⟨x, hx, hxh⟩ := hb
    simp at hx; subst hx
    have : b = l := hxh
    subst this
    exact .inr hl
theorem Mem.other (h : Mem P fx cx σ w) {l : Nat} {o o' : Obj} (ho : Oth cx σ l) (hl : fx.w0.heap.size ≤ l) (hh : w.heap[l]? = some o') (hc : ∀ a t f, o' ≠ .cells a t f) : Mem P fx cx σ (w.putObj l o) := by
  refine ⟨fun k b hb => ?_, h.plok, h.dis, h.nor, h.wit, fun b hb => by have := h.rlt b hb; simpa [World.putObj] using this, h.rin, h.r0, fr_put h.fr hl hh hc, h.par⟩
  obtain ⟨p, h1, h2⟩ := h.blk k b hb
  exact ⟨p, h1, h2.mono (Cx.le_refl _) (heapEq_put ho.1) fun x hx => keeps_put (ho.2 k b p ⟨hb, h1⟩ x hx) hh hc⟩
theorem Mem.addR (h : Mem P fx cx σ w) {l : Nat} (ho : Oth cx σ l) (hl : fx.w0.heap.size ≤ l) (hlt : l < w.heap.size) : Mem P fx { cx with R := fun b => cx.R b ∨ b = l } σ w := by
  have hle : cx.le { cx with R := fun b => cx.R b ∨ b = l } := ⟨fun _ _ _ h => h, fun _ h => .inl h⟩
  refine ⟨fun k b hb => ?_, h.plok, h.dis, fun k b p ha x hx bb o hh => ?_, h.wit, fun b hb => ?_, fun b hb => ?_, fun b hb => .inl (h.r0 b hb), h.fr, h.par⟩
  · obtain ⟨p, h1, h2⟩ := h.blk k b hb
    exact ⟨p, h1, h2.mono hle (fun _ _ => rfl) fun x _ => Keeps.refl w x⟩
  · obtain ⟨h1, h2⟩ := h.nor k b p ha x hx bb o hh
    refine ⟨fun hz hR => hR.elim (h1 hz) fun e => ?_, fun hz => .inl (h2 hz)⟩
    subst e
    exact ho.2 k b p ha x hx o hh
  · rcases hb with hb | rfl
    · exact h.rlt b hb
    · exact hlt
  · rcases hb with hb | rfl
    · exact h.rin b hb
    · exact .inr (.inr hl)
theorem Oth.keep {os : List OwnR} {rd : Option Nat} {m : Nat} {w1 w2 : World} (hos : ∀ b o, Owns os b o → ∃ k bl p, At cx σ k bl p ∧ ∃ x ∈ bl.rng p, x.has b o) {cx2 : Cx} {σ2 : St} {l : Nat}
    (h2 : Mem P ⟨w1, cx.R, os, fun k => if k < m then cx.pl k 0 else none, rd⟩ cx2 σ2 w2) (ho : Oth cx σ l) (hlt : l < w1.heap.size) : Oth cx2 σ2 l ∧ w2.heap[l]? = w1.heap[l]? := by
  have hno : ∀ o, ¬ Owns os l o := fun o h => by
    obtain ⟨k, bl, p, ha, x, hx, hh⟩ := hos l o h
    exact ho.2 k bl p ha x hx o hh
  refine ⟨⟨fun hR => ?_, fun k b p ha x hx o e => ?_⟩, h2.fr.hblk l hlt hno⟩
  · rcases h2.rin l hR with h | h | h
    · exact ho.1 h
    · exact hno 0 (h 0)
    · have : w1.heap.size ≤ l := h; omega
  · rcases h2.wit k b p ha x hx l o e with h | h
    · exact hno o h
    · have : w1.heap.size ≤ l := h; omega

theorem foldl_other {t : Array Value} {j : Nat} : ∀ {l : List Nat} {ys : List Value}, j ∉ l → ((l.zip ys).foldl (fun t (x : Nat × Value) => t.setIfInBounds x.1 x.2) t)[j]? = t[j]?
  | [], _, _ => by simp
  | p :: l, [], _ => by simp
  | p :: l, y :: ys, h => by
    simp at h
    rw [List.zip_cons_cons, List.foldl_cons, foldl_other (t := t.setIfInBounds p y) h.2]
    simp only [Array.getElem?_setIfInBounds]
    rw [if_neg fun e => h.1 e.symm]
theorem foldl_at {j i : Nat} {y : Value} : ∀ {l : List Nat} {ys : List Value} {t : Array Value}, l.Nodup → j < t.size → l[i]? = some j → ys[i]? = some y → ((l.zip ys).foldl (fun t (x : Nat × Value) => t.setIfInBounds x.1 x.2) t)[j]? = some y
  | [], _, _, _, _, h, _ => by simp at h
  | p :: l, [], _, _, _, _, h => by simp at h
  | p :: l, z :: ys, t, hn, hj, hi, hy => by
    obtain ⟨n1, n2⟩ := List.nodup_cons.1 hn
    rw [List.zip_cons_cons, List.foldl_cons]
    cases i with
    | zero =>
      simp at hi hy; subst hi; subst hy
      rw [foldl_other n1]
      simp [hj]
    | succ i => exact foldl_at n2 (by simpa using hj) (by simpa using hi) (by simpa using hy)
theorem foldl_size : ∀ {l : List (Nat × Value)} {t : Array Value}, (l.foldl (fun t (x : Nat × Value) => t.setIfInBounds x.1 x.2) t).size = t.size
  | [], _ => rfl
  | x :: l, t => by rw [List.foldl_cons, foldl_size]; simp
theorem lk_zip {T0 : List (Nat × IV)} {t : Nat} {x : IV} : ∀ {l : List Nat} {xs : List IV}, lk (l.zip xs ++ T0) t = some x → (∃ i : Nat, l[i]? = some t ∧ xs[i]? = some x) ∨ ((t ∉ l ∨ xs.length < l.length) ∧ lk T0 t = some x)
  | [], _, h => .inr ⟨.inl (by simp), by simpa using h⟩
  | p :: l, [], h => .inr ⟨.inr (by simp), by simpa using h⟩
  | p :: l, z :: xs, h => by
    rw [List.zip_cons_cons, List.cons_append] at h
    unfold lk at h
    split at h
    · rename_i e
      cases h; subst e
      exact .inl ⟨0, rfl, rfl⟩
    · rename_i e
      rcases lk_zip h with ⟨i, h1, h2⟩ | ⟨h1, h2⟩
      · exact .inl ⟨i + 1, by simpa using h1, by simpa using h2⟩
      · exact .inr ⟨h1.imp (fun h1 => by simp [h1]; exact e) (fun h1 => by simpa using h1), h2⟩
def TRs (R : Nat → Prop) (w : World) (xs : List IV) (ys : List Value) : Prop := ys.length = xs.length ∧ ∀ (i : Nat) (x : IV) (y : Value), xs[i]? = some x → ys[i]? = some y → TR R w x y
def IterC (P : Program) (f : FuncId) (lb : List Value) (xs : List (List IV)) (Pre : World → Prop) : Prop :=
  ∀ (lp : Nat) (J : Nat → World → Prop) (Jx : World → Prop) (W : World), (∀ k W1, J k W1 → Pre W1) → (∀ k W1 W2, J k W1 → Fr W1 W2 [] → J k W2) →
    (∀ k x W1 W2 ys, J k W1 → xs[k]? = some x → Fr W1 W2 [] → TRs (fun b => W1.heap.size ≤ b ∧ b < W2.heap.size) W2 x ys →
      YieldAt Fence.wide 0 P lp ys.toArray W2 fun e W' => (e = .returned (.bool true) ∧ J (k + 1) W') ∨ (e = .returned (.bool false) ∧ Jx W')) →
    J 0 W → CallsIn Fence.wide 0 P f (#[.func (.yield lp) #[] #[]] ++ lb.toArray) W fun e W' => (∃ v, e = .returned v) ∧ (J xs.length W' ∨ Jx W')
def okT (m : Nat) : IV → Bool
  | .v _ => true
  | .emp => true
  | .tr _ _ => true
  | .ptr k ver _ => decide (k < m) && ver == 0
  | .sl k ver _ _ => decide (k < m) && ver == 0
  | _ => false
theorem okT.vx {m : Nat} {cx cx' : Cx} {w w' : World} (hp : ∀ j p, j < m → cx.pl j 0 = some p → cx'.pl j 0 = some p) (hR : ∀ b, cx.R b → cx'.R b) (hw : HeapEq cx.R w w') {x : IV} {y : Value} (ho : okT m x = true) (h : VX cx w x y) : VX cx' w' x y := by
  cases x <;> simp only [okT, Bool.and_eq_true, decide_eq_true_eq, beq_iff_eq, Bool.false_eq_true] at ho
  · exact h
  · exact h
  · unfold VX at h ⊢; exact TR.mono hR hw _ _ h
  · obtain ⟨h1, rfl⟩ := ho
    unfold VX at h ⊢
    obtain ⟨p, p1, p2⟩ := h
    exact ⟨p, hp _ p h1 p1, p2⟩
  · obtain ⟨h1, rfl⟩ := ho
    unfold VX at h ⊢
    obtain ⟨p, p1, p2⟩ := h
    exact ⟨p, hp _ p h1 p1, p2⟩
theorem okT_vx {m : Nat} {cx cx' : Cx} {w w' : World} {T T0 : List (Nat × IV)} (hp : ∀ j p, j < m → cx.pl j 0 = some p → cx'.pl j 0 = some p) (hR : ∀ b, cx.R b → cx'.R b) (hw : HeapEq cx.R w w') (hok : T0.all (fun x => okT m x.2) = true) (hT : AllT (lk T) T0)
    {tm : Array Value} (ht : ∀ t x, lk T t = some x → ∃ y, tm[t]? = some y ∧ VX cx w x y) {t : Nat} {x : IV} (hx : lk T0 t = some x) : ∃ y, tm[t]? = some y ∧ VX cx' w' x y := by
  obtain ⟨y, h1, h2⟩ := ht t x (AllT.lk hT hx)
  refine ⟨y, h1, okT.vx hp hR hw ?_ h2⟩
  have : ∀ {T0 : List (Nat × IV)}, T0.all (fun x => okT m x.2) = true → lk T0 t = some x → okT m x = true := by
    intro T0
    induction T0 with
    | nil => intro _ h; simp [lk] at h
    | cons z T0 ih =>
      intro ha h
      simp only [List.all_cons, Bool.and_eq_true] at ha
      unfold lk at h
      split at h
      · cases h; exact ha.1
      · exact ih ha.2 h
  exact this hok hx

theorem IW.rangeFunc {g : Operand} {ps : Array Tmp} {assign body : Code} {Q : Exit → St → Prop} {f : FuncId} {caps : List IV} {xs : List (List IV)} (m : Nat) (T0 : List (Nat × IV)) (S : Nat → List (Option Blk)) (M : Nat → St) (Qx : Nat → List (Option Blk) → Prop)
    (hrd : fx.rd = none) (hg : ev σ g = some (.fn (.func f) caps)) (hen : Ent P f) (hfx : ∀ k, (fx.par k).isSome = true → decide (k < m) = true)
    (hL : σ.L = S 0) (hT : AllT (lk σ.T) T0) (hok : T0.all (fun x => okT m x.2) = true) (hps : ps.toList.Nodup) (hpN : ∀ p ∈ ps.toList, p < σ.N) (hx : ∀ x ∈ xs, x.length = ps.size)
    (hit : ∀ cx0 W0 lb, VXl cx0 W0 caps lb → Mem P fx cx0 ⟨σ.N, [], S 0⟩ W0 → ∃ Pre, IterC P f lb xs Pre ∧ ∀ k cx W, Mem P fx cx ⟨σ.N, [], S k⟩ W → (∀ j p, j < m → cx0.pl j 0 = some p → cx.pl j 0 = some p) → Pre W)
    (hA : ∀ (k : Nat) (x : List IV) (fx' : Fx), xs[k]? = some x → (∀ j, (fx'.par j).isSome = true → decide (j < m) = true) → IW P fx' assign (fun e σ1 => e = .normal ∧ σ1 = M k) ⟨σ.N, ps.toList.zip x ++ T0, S k⟩)
    (hB : ∀ (k : Nat) (x : List IV) (fx' : Fx), xs[k]? = some x → (∀ j, (fx'.par j).isSome = true → decide (j < m) = true) → IW P fx' body (thenQ (fun σ2 => Weak P fx' σ2 ⟨σ.N, [], S (k + 1)⟩) fun e σ2 => ∃ id Lx, e = .exit id ∧ Weak P fx' σ2 ⟨σ.N, [], Lx⟩ ∧ Qx id Lx) (M k))
    (hzS : ∀ (k j : Nat) (b : Blk), (S k)[j]? = some (some b) → b.frz = false) (hzM : ∀ (k j : Nat) (b : Blk), (M k).L[j]? = some (some b) → b.frz = false)
    (hdone : Q .normal ⟨σ.N, T0, S xs.length⟩) (hexit : ∀ id Lx, Qx id Lx → Q (.exit id) ⟨σ.N, T0, Lx⟩) : IW P fx (.rangeFunc g ps assign body) Q σ := by
  intro cx0 a w QQ hs hn
  have hF : fxF fx = Fence.wide := by unfold fxF; rw [hrd]; rfl
  rw [hF]
  have hfm : ∀ k p, fx.par k = some p → k < m := fun k p h => of_decide_eq_true (hfx k (by rw [h]; rfl))
  have hfv := ev_sound hs.s hg
  unfold VX at hfv
  obtain ⟨arr, hfv, hcaps⟩ := hfv
  have hm0 : Mem P fx cx0 ⟨σ.N, [], S 0⟩ w := hs.m.sameL hL.symm
  obtain ⟨Pre, hIt, hPre⟩ := hit cx0 w arr.toList hcaps hm0
  obtain ⟨fn', e1, e2, e3⟩ := hen
  refine wpIn_rangeFunc ?_
  intro fn hfn
  obtain ⟨rec, hrec⟩ : ∃ rec : LoopState → Option Code → Loop, rec = fun st pe => { state := st, pending := pe, fn, tmps := a.tmps, params := ps, assign, body, defers := w.heap.size } := ⟨_, rfl⟩
  obtain ⟨W1, hW1⟩ : ∃ W1, (w.alloc (.deferred (some []))).alloc (.loop (rec .ready none)) = W1 := ⟨_, rfl⟩
  have hL1 : W1.heap[w.heap.size + 1]? = some (.loop (rec .ready none)) := by
    rw [← hW1]; have := World.alloc_heap_new (w.alloc (.deferred (some []))) (.loop (rec .ready none)); rwa [World.size_alloc] at this
  have hK1 : W1.heap[w.heap.size]? = some (.deferred (some [])) := by
    rw [← hW1]; exact (heap_alloc_lt (by simp)).trans (heap_alloc_at w _)
  have hf01 : Fr w W1 [] := by
    rw [← hW1]; exact (Fr.alloc w _ []).trans (Fr.alloc _ _ []) fun b o ⟨r, hr, _⟩ => by simp at hr
  obtain ⟨l, hl⟩ : ∃ l, w.heap.size + 1 = l := ⟨_, rfl⟩
  obtain ⟨D, hD⟩ : ∃ D, w.heap.size = D := ⟨_, rfl⟩
  have hl0 : fx.w0.heap.size ≤ l := by have := hs.m.fr.hsize; omega
  have hD0 : fx.w0.heap.size ≤ D := by have := hs.m.fr.hsize; omega
  let Inv : Cx → List (Option Blk) → World → Prop := fun cx L W => Mem P fx cx ⟨σ.N, [], L⟩ W ∧ (∀ j p, j < m → cx0.pl j 0 = some p → cx.pl j 0 = some p) ∧ (∀ b, cx0.R b → cx.R b) ∧ HeapEq cx0.R w W ∧ Oth cx ⟨σ.N, [], L⟩ l ∧ Oth cx ⟨σ.N, [], L⟩ D ∧ W.heap[D]? = some (.deferred (some []))
  let J : Nat → World → Prop := fun k W => ∃ cx, Inv cx (S k) W ∧ W.heap[l]? = some (.loop (rec .ready none))
  let Jx : World → Prop := fun W => ∃ id Lx cx, Qx id Lx ∧ Inv cx Lx W ∧ W.heap[l]? = some (.loop (rec .done (some (.exit id))))
  have hoth0 : ∀ q, w.heap.size ≤ q → Oth cx0 ⟨σ.N, [], S 0⟩ q := fun q hq => ⟨fun h => by have := hs.m.rlt q h; omega, fun k b p ha x hx o hh => by have := hm0.lt ha x hx q o hh; omega⟩
  have hput : ∀ cx L W o o', Inv cx L W → W.heap[l]? = some o' → (∀ a t f, o' ≠ .cells a t f) → Inv cx L (W.putObj l o) := fun cx L W o o' ⟨i1, i2, i3, i4, i5, i6, i7⟩ hh hc =>
    ⟨i1.other i5 hl0 hh hc, i2, i3, fun b hb => (heapEq_put (R := cx.R) i5.1 b (i3 b hb)).trans (i4 b hb), i5, i6, (World.putObj_heap_other (by omega)).trans i7⟩
  have hJ0 : J 0 W1 := ⟨cx0, ⟨hm0.grow' hf01, fun _ _ _ h => h, fun _ h => h, fun b hb => hf01.hblk b (hs.m.rlt b hb) fun o ⟨r, hr, _⟩ => by simp at hr, hoth0 l (by omega), hoth0 D (by omega), by rw [← hD]; exact hK1⟩, by rw [← hl]; exact hL1⟩
  have hgrow : ∀ cx L W W2, Inv cx L W → Fr W W2 [] → Inv cx L W2 := fun cx L W W2 ⟨i1, i2, i3, i4, i5, i6, i7⟩ hf =>
    ⟨i1.grow' hf, i2, i3, fun b hb => (hf.hblk b (i1.rlt b (i3 b hb)) fun o ⟨r, hr, _⟩ => by simp at hr).trans (i4 b hb), i5, i6, (hf.hblk D (lt_of_heap i7) fun o ⟨r, hr, _⟩ => by simp at hr).trans i7⟩
  refine ⟨w.heap.size + 1, [{ target := .collected w.heap.size, args := #[] }], W1, { target := .fn (.func f) arr, args := #[.func (.yield (w.heap.size + 1)) #[] #[]] }, W1, f, #[.func (.yield (w.heap.size + 1)) #[] #[]] ++ arr, W1, ?_, ?_, fun _ _ => trivial, ?_, (fun h => by cases h), ?_⟩
  · rw [← hW1, hrec]; exact run_enterLoop_outer _ _ _ _ _
  · simp only [resolve, hfv]
    simp [go_sem]
  · simp only [beq_eq_false_iff_ne, ne_eq, Option.isNone_eq_false_iff] at e2 e3
    simp [invoke, callFunc, e1, e2, Option.isSome_iff_ne_none.1 e3]
  have hnc : ∀ (r : Loop) (a : Array Value) (t : TypeId) (f : Nat × Nat), Obj.loop r ≠ .cells a t f := fun _ _ _ _ h => by cases h
  have hafter : ∀ L W cx, Inv cx L W → Sim P fx { cx with R := fun b => cx.R b ∨ b = D } ⟨σ.N, T0, L⟩ { a with defers := mark D :: a.defers } W := fun L W cx ⟨i1, i2, i3, i4, i5, i6, i7⟩ => by
    refine ⟨(i1.addR i6 hD0 (lt_of_heap i7)).sameL rfl, ?_, hs.s.len, fun t x hx => ?_⟩
    · obtain ⟨Ds, d1, d2, d3⟩ := hs.s.dfr
      refine ⟨D :: Ds, by rw [d1]; rfl, List.nodup_cons.2 ⟨fun h => ?_, d2⟩, fun D' hD' => ?_⟩
      · have := hs.m.rlt D (d3 D h).1; omega
      · rcases List.mem_cons.1 hD' with rfl | hD'
        · exact ⟨.inr rfl, i7⟩
        · exact ⟨.inl (i3 _ (d3 D' hD').1), by rw [i4 _ (d3 D' hD').1]; exact (d3 D' hD').2⟩
    · exact okT_vx (cx := cx0) (cx' := { cx with R := fun b => cx.R b ∨ b = D }) (fun j p hj hp => i2 j p hj hp) (fun b hb => .inl (i3 b hb)) i4 hok hT hs.s.tmp hx
  rw [hl]
  have := hIt l J Jx W1 (fun k W ⟨cx, hi, _⟩ => hPre k cx W hi.1 hi.2.1) (fun k W W2 ⟨cx, hi, hh⟩ hf => ⟨cx, hgrow cx _ W W2 hi hf, (hf.hblk l (lt_of_heap hh) fun o ⟨r, hr, _⟩ => by simp at hr).trans hh⟩) ?_ hJ0
  · refine CallsIn.mono (R := fun e W' => (∃ v, e = .returned v) ∧ (J xs.length W' ∨ Jx W')) (by simpa using this) ?_
    rintro e W2 ⟨⟨v, rfl⟩, ⟨cx, hi, hh⟩ | ⟨id, Lx, cx, hq, hi, hh⟩⟩
    · have hp : (rec .ready none).pending = none := by rw [hrec]
      refine ⟨(rec .ready none).pending, _, run_endLoop (P := P) hh (by rw [hrec]; simp), ?_⟩
      have h2 := hafter _ _ cx (hput cx _ W2 (.loop { rec .ready none with state := .exhausted }) _ hi hh (hnc _))
      rw [← hD] at h2
      simp only [hp] at h2 ⊢
      exact hn .normal _ _ _ _ hdone h2
    · have hp : (rec .done (some (.exit id))).pending = some (.exit id) := by rw [hrec]
      refine ⟨(rec .done (some (.exit id))).pending, _, run_endLoop (P := P) hh (by rw [hrec]; simp), ?_⟩
      have h2 := hafter _ _ cx (hput cx _ W2 (.loop { rec .done (some (.exit id)) with state := .exhausted }) _ hi hh (hnc _))
      rw [← hD] at h2
      simp only [hp] at h2 ⊢
      exact wpIn_exit (hn (.exit id) _ _ _ _ (hexit id Lx hq) h2)
  · -- one round
    intro k x Wa W2 ys ⟨cx, hi, hh⟩ hxk hf hy
    obtain ⟨i1, i2, i3, i4, i5, i6, i7⟩ := hgrow cx _ Wa W2 hi hf
    have hh2 : W2.heap[l]? = some (.loop (rec .ready none)) := (hf.hblk l (lt_of_heap hh) fun o ⟨r, hr, _⟩ => by simp at hr).trans hh
    have hlA : l < Wa.heap.size := lt_of_heap hh
    have hDA : D < Wa.heap.size := lt_of_heap hi.2.2.2.2.2.2
    have hg1 : Mem P fx { cx with R := fun b => cx.R b ∨ (Wa.heap.size ≤ b ∧ b < W2.heap.size) } ⟨σ.N, [], S k⟩ W2 := hi.1.grow hf _ (fun _ h => .inl h) fun b hb => hb
    have o1 : ∀ q, q < Wa.heap.size → Oth cx ⟨σ.N, [], S k⟩ q → Oth { cx with R := fun b => cx.R b ∨ (Wa.heap.size ≤ b ∧ b < W2.heap.size) } ⟨σ.N, [], S k⟩ q := fun q hq ho => ⟨fun h => h.elim ho.1 fun h => by omega, ho.2⟩
    have hxl : x.length = ps.size := hx x (List.mem_of_getElem? hxk)
    have hyl : ys.length = ps.size := by rw [hy.1, hxl]
    have hyr := run_yield (P := P) (args := ys.toArray) hh2 (by rw [hrec]; simpa using hyl)
    rw [hrec] at hyr
    refine ⟨fn, _, assign, body, hyr, roundIn_of_wpIn hfn ?_⟩
    clear hyr
    obtain ⟨os, hos, hb1⟩ := hg1.rebase m (some l) (Nat.le_refl _) (fun _ _ => rfl) (fun _ _ _ _ x _ => Keeps.refl _ x)
    have hzip : (ps.zip ys.toArray).foldl (fun t (p, v) => t.setIfInBounds p v) a.tmps = (ps.toList.zip ys).foldl (fun t (x : Nat × Value) => t.setIfInBounds x.1 x.2) a.tmps := by
      rw [← Array.foldl_toList]; simp
    refine hA k x _ hxk (fun j hj => ?_) { cx with R := fun b => cx.R b ∨ (Wa.heap.size ≤ b ∧ b < W2.heap.size) } _ W2 _ ⟨hb1.sameL rfl, ?_⟩ fun e σ1 cx1 a1 w1 hq hs1 => ?_
    · simp only at hj
      split at hj
      · exact decide_eq_true ‹_›
      · cases hj
    · refine ⟨Dfr.nil, by rw [hzip, foldl_size]; exact hs.s.len, fun t z hz => ?_⟩
      rw [hzip]
      rcases lk_zip hz with ⟨i, h1, h2⟩ | ⟨h1, h2⟩
      · have hil : i < ys.length := by rw [hyl]; simpa using (List.getElem?_eq_some_iff.1 h1).1
        have hyi : ys[i]? = some ys[i] := List.getElem?_eq_getElem hil
        refine ⟨ys[i], foldl_at hps (by rw [hs.s.len]; exact hpN t (List.mem_of_getElem? h1)) h1 hyi, ?_⟩
        exact TR.vx _ _ (TR.mono (fun b hb => .inr hb) (fun _ _ => rfl) _ _ (hy.2 i z _ h2 hyi))
      · rw [foldl_other (h1.resolve_right (by rw [hxl]; simp))]
        exact okT_vx (cx := cx0) (cx' := { cx with R := fun b => cx.R b ∨ (Wa.heap.size ≤ b ∧ b < W2.heap.size) }) (fun j p hj hp => i2 j p hj hp) (fun b hb => .inl (i3 b hb)) i4 hok hT hs.s.tmp h2
    obtain ⟨rfl, rfl⟩ := hq
    have v1 : Mem P fx cx1 (M k) w1 := hg1.unbase hos hg1.fr hs1.m hfm
    obtain ⟨p1, p2⟩ := Oth.keep hos hs1.m (o1 l hlA i5) (lt_of_heap hh2)
    obtain ⟨p3, p4⟩ := Oth.keep hos hs1.m (o1 D hDA i6) (lt_of_heap i7)
    have hw1 : w1.heap[l]? = some (.loop (rec .ready none)) := p2.trans hh2
    have q2 : ∀ j p, j < m → cx0.pl j 0 = some p → cx1.pl j 0 = some p := fun j p hj hp => hs1.m.par j p (by simp only [if_pos hj]; exact i2 j p hj hp)
    have q3 : ∀ b, cx0.R b → cx1.R b := fun b hb => hs1.m.r0 b (.inl (i3 b hb))
    have hnR : ∀ q, q < Wa.heap.size → Oth cx ⟨σ.N, [], S k⟩ q → ∀ o, ¬ Owns os q o := fun q hq ho o hos' => by
      obtain ⟨kk, bl, p, ha, xx, hxx, hh'⟩ := hos q o hos'
      exact ho.2 kk bl p ha xx hxx o hh'
    have hRos : ∀ b, cx0.R b → ∀ o, ¬ Owns os b o := fun b hb o hos' => by
      obtain ⟨kk, bl, p, ha, xx, hxx, hh'⟩ := hos b o hos'
      exact (i1.nor kk bl p ha xx hxx b o hh').1 (hzS k kk bl ha.1) (i3 b hb)
    have q4 : HeapEq cx0.R w w1 := fun b hb => (hs1.m.fr.hblk b (i1.rlt b (i3 b hb)) (hRos b hb)).trans (i4 b hb)
    have hl1 : ∀ a t f, Obj.loop (rec .ready none) ≠ .cells a t f := hnc _
    refine ⟨_, run_beginRound hw1 (by rw [hrec]), ?_⟩
    have hfb : Fr fx.w0 (w1.putObj l (.loop { rec .ready none with state := .busy })) fx.os := fr_put v1.fr hl0 hw1 hl1
    have hRb : HeapEq cx1.R w1 (w1.putObj l (.loop { rec .ready none with state := .busy })) := heapEq_put p1.1
    have hw2 : (w1.putObj l (.loop { rec .ready none with state := .busy })).heap[l]? = some (.loop { rec .ready none with state := .busy }) := World.putObj_heap_same (lt_of_heap hw1)
    have hwD : (w1.putObj l (.loop { rec .ready none with state := .busy })).heap[D]? = some (.deferred (some [])) := (World.putObj_heap_other (by omega)).trans (p4.trans i7)
    obtain ⟨os2, hos2, hb2⟩ := v1.rebase (w' := w1.putObj l (.loop { rec .ready none with state := .busy })) m (some l) (by simp [World.putObj]) hRb (fun kk b p ha x hx => keeps_put (p1.2 kk b p ha x hx) hw1 hl1)
    refine hB k x _ hxk (fun j hj => ?_) cx1 _ _ _ ⟨hb2, hs1.s.mono (fun _ _ h => h) rfl (Cx.le_refl _) hRb⟩ fun e σ2 cx2 a2 w3 hq hs2 => ?_
    · simp only at hj
      split at hj
      · exact decide_eq_true ‹_›
      · cases hj
    have fin : ∀ (L : List (Option Blk)) (cx3 : Cx) (st : LoopState) (jump : Option Code), Sim P ⟨w1.putObj l (.loop { rec .ready none with state := .busy }), cx1.R, os2, fun k => if k < m then cx1.pl k 0 else none, some l⟩ cx3 ⟨σ.N, [], L⟩ a2 w3 →
        w3.heap[l]? = some (.loop { rec .ready none with state := .busy }) ∧ Inv cx3 L (w3.putObj l (.loop { rec .ready none with state := st, pending := jump })) := fun L cx3 st jump hs3 => by
      have v3 : Mem P fx cx3 ⟨σ.N, [], L⟩ w3 := v1.unbase hos2 hfb hs3.m hfm
      obtain ⟨r1, r2⟩ := Oth.keep hos2 hs3.m p1 (lt_of_heap hw2)
      obtain ⟨r3, r4⟩ := Oth.keep hos2 hs3.m p3 (lt_of_heap hwD)
      have hw3 := r2.trans hw2
      refine ⟨hw3, v3.other r1 hl0 hw3 (hnc _), fun j p hj hp => hs3.m.par j p (by simp only [if_pos hj]; exact q2 j p hj hp), fun b hb => hs3.m.r0 b (q3 b hb), fun b hb => ?_, r1, r3, (World.putObj_heap_other (by omega)).trans (r4.trans hwD)⟩
      have hno2 : ∀ o, ¬ Owns os2 b o := fun o hos' => by
        obtain ⟨kk, bl, p, ha, xx, hxx, hh'⟩ := hos2 b o hos'
        exact (v1.nor kk bl p ha xx hxx b o hh').1 (hzM k kk bl ha.1) (q3 b hb)
      have hlt : b < (w1.putObj l (.loop { rec .ready none with state := .busy })).heap.size := by have := v1.rlt b (q3 b hb); simpa [World.putObj] using this
      exact (heapEq_put (R := cx1.R) (l := l) (w := w3) p1.1 b (q3 b hb)).trans ((hs3.m.fr.hblk b hlt hno2).trans ((hRb b (q3 b hb)).trans (q4 b hb)))
    cases e <;> simp only [thenQ] at hq
    case normal =>
      obtain ⟨cx3, hs3⟩ := hq cx2 a2 w3 hs2
      obtain ⟨g1, g2⟩ := fin _ cx3 .ready none hs3
      refine ⟨_, _, run_endRound none g1, .inl ⟨rfl, cx3, g2, ?_⟩⟩
      rw [World.putObj_heap_same (lt_of_heap g1)]
      rw [hrec]; rfl
    case exit id =>
      obtain ⟨id', Lx, he, hw, hqx⟩ := hq
      cases he
      obtain ⟨cx3, hs3⟩ := hw cx2 a2 w3 hs2
      obtain ⟨g1, g2⟩ := fin _ cx3 .done (some (.exit id)) hs3
      refine ⟨_, _, run_endRound (some (.exit id)) g1, .inr ⟨rfl, id, Lx, cx3, hqx, g2, ?_⟩⟩
      rw [World.putObj_heap_same (lt_of_heap g1)]
      rw [hrec]; rfl
    all_goals (obtain ⟨_, _, he, _⟩ := hq; cases he)

theorem WK.rangeFunc {g : Operand} {ps : Array Tmp} {assign body : Code} {N : St → Prop} {Q : Exit → St → Prop} {f : FuncId} {caps : List IV} {xs : List (List IV)} (m : Nat) (T0 : List (Nat × IV)) (S : Nat → List (Option Blk)) (M : Nat → St) (Qx : Nat → List (Option Blk) → Prop)
    (hrd : fx.rd = none) (hg : ev σ g = some (.fn (.func f) caps)) (hen : Ent P f) (hfx : ∀ k, (fx.par k).isSome = true → decide (k < m) = true)
    (hL : σ.L = S 0) (hT : AllT (lk σ.T) T0) (hok : T0.all (fun x => okT m x.2) = true) (hps : ps.toList.Nodup) (hpN : ∀ p ∈ ps.toList, p < σ.N) (hx : ∀ x ∈ xs, x.length = ps.size)
    (hit : ∀ cx0 W0 lb, VXl cx0 W0 caps lb → Mem P fx cx0 ⟨σ.N, [], S 0⟩ W0 → ∃ Pre, IterC P f lb xs Pre ∧ ∀ k cx W, Mem P fx cx ⟨σ.N, [], S k⟩ W → (∀ j p, j < m → cx0.pl j 0 = some p → cx.pl j 0 = some p) → Pre W)
    (hzS : ∀ (k j : Nat) (b : Blk), (S k)[j]? = some (some b) → b.frz = false) (hzM : ∀ (k j : Nat) (b : Blk), (M k).L[j]? = some (some b) → b.frz = false)
    (hA : ∀ (k : Nat) (x : List IV) (fx' : Fx), xs[k]? = some x → (∀ j, (fx'.par j).isSome = true → decide (j < m) = true) → WK P fx' assign (fun σ1 => σ1 = M k) (fun _ _ => False) ⟨σ.N, ps.toList.zip x ++ T0, S k⟩)
    (hB : ∀ (k : Nat) (x : List IV) (fx' : Fx), xs[k]? = some x → (∀ j, (fx'.par j).isSome = true → decide (j < m) = true) → WK P fx' body (fun σ2 => Weak P fx' σ2 ⟨σ.N, [], S (k + 1)⟩) (fun e σ2 => ∃ id Lx, e = .exit id ∧ Weak P fx' σ2 ⟨σ.N, [], Lx⟩ ∧ Qx id Lx) (M k))
    (hdone : N ⟨σ.N, T0, S xs.length⟩) (hexit : ∀ id Lx, Qx id Lx → Q (.exit id) ⟨σ.N, T0, Lx⟩) : WK P fx (.rangeFunc g ps assign body) N Q σ :=
  IW.rangeFunc m T0 S M Qx hrd hg hen hfx hL hT hok hps hpN hx hit (fun k x fx' h1 h2 => IW.mono (hA k x fx' h1 h2) fun e σ he => by cases e <;> first | exact ⟨rfl, he⟩ | exact he.elim) hB hzS hzM hdone hexit

theorem IP.callBox {o : Oper} {c : Call} {fo x : Operand} {f h : FuncId} {t : TypeId} {k ver off : Nat} {K : St → Prop} (hC : ∀ (q : Option Addr) (w : World), CallsIn Fence.wide 0 P f #[.pointer q] w fun e w' => e = .returned (.func (.func h) #[] #[.pointer (some ⟨w.heap.size, 0, none⟩)]) ∧ w' = w.alloc (.cells #[.pointer q] t))
    (ho : o.op = .call c) (hc : c.callee = .value fo) (hfo : ev σ fo = some (.fn (.func f) [])) (hen : Ent P f) (hx : c.args.toList = [x]) (hv : ev σ x = some (.ptr k ver off))
    (hK : fin o σ (.fn (.func h) [.ptr σ.L.length 0 0]) (σ.L ++ [some (objBlk t [.ptr k ver off])]) K) : IP P fx o K σ := by
  intro cx a w next QQ hs hn
  have hy := ev_sound hs.s hv
  have hfv := ev_sound hs.s hfo
  unfold VX at hfv
  obtain ⟨arr, hfv, hcaps⟩ := hfv
  unfold VXl at hcaps
  have hcaps : arr = #[] := by simpa using hcaps
  subst hcaps
  obtain ⟨fn, e1, e2, e3⟩ := hen
  have hy' := hy
  unfold VX at hy'
  obtain ⟨p, _, g, d, _, hq⟩ := hy'
  have hrun : (execOp a.eval o).run P w = .ok (.enter f #[.pointer (some ⟨g, d + off, none⟩)]) w := by
    simp only [beq_eq_false_iff_ne, ne_eq, Option.isNone_eq_false_iff] at e2 e3
    have ha : c.args = #[x] := by apply Array.ext'; simpa using hx
    simp [execOp, ho, resolve, hc, hfv, Deferred.ofValue, invoke, callFunc, e1, e2, Option.isSome_iff_ne_none.1 e3, ha, hq]
  unfold Oper.wp
  rw [hrun, Oper.upon_enter]
  refine (callsIn_wide.1 (hC (some ⟨g, d + off, none⟩) w)).mono ?_
  rintro e w' ⟨rfl, rfl⟩
  rw [hq] at hy
  obtain ⟨cx2, l1, l0, l2, l3, l4⟩ := push_obj (ys := [.pointer (some ⟨g, d + off, none⟩)]) hs.m t (VXl.cons hy VXl.nil) (by simp [Value.oneCell'])
  show next (a.put o.dst _) _
  have hvx : VX cx2 (w.alloc (.cells #[.pointer (some ⟨g, d + off, none⟩)] t)) (.fn (.func h) [.ptr σ.L.length 0 0]) (.func (.func h) #[] #[.pointer (some ⟨w.heap.size, 0, none⟩)]) := by
    unfold VX; exact ⟨_, rfl, VXl.cons l4 VXl.nil⟩
  unfold fin at hK
  split at hK
  · rename_i d hd
    rw [hd]
    exact hn _ cx2 _ _ hK.2 ⟨l2.sameL rfl, (hs.s.mono (σ' := { σ with L := σ.L ++ [some (objBlk t [.ptr k ver off])] }) (fun _ _ h => h) rfl l1 l3).put d hK.1 _ _ hvx⟩
  · rename_i hd
    rw [hd]
    exact hn _ cx2 _ _ hK ⟨l2, hs.s.mono (fun _ _ h => h) rfl l1 l3⟩
theorem IL.callBox {ops : Array Oper} {o : Oper} {r : List Oper} {f h : FuncId} {t : TypeId} {k ver off d N : Nat} {T : List (Nat × IV)} {L : List (Option Blk)} {K : St → Prop} (hC : ∀ (q : Option Addr) (w : World), CallsIn Fence.wide 0 P f #[.pointer q] w fun e w' => e = .returned (.func (.func h) #[] #[.pointer (some ⟨w.heap.size, 0, none⟩)]) ∧ w' = w.alloc (.cells #[.pointer q] t))
    (hen : Ent P f) {c : Call} {fo x : Operand} (hr : IL P fx ops r K ⟨N, (d, .fn (.func h) [.ptr L.length 0 0]) :: T, L ++ [some (objBlk t [.ptr k ver off])]⟩) (hg : Gok ops ⟨N, T, L⟩ o := by exact .inl rfl) (ho : o.op = .call c := by rfl) (hc : c.callee = .value fo := by rfl) (hfo : ev ⟨N, T, L⟩ fo = some (.fn (.func f) []) := by rfl)
    (hx : c.args.toList = [x] := by rfl) (hv : ev ⟨N, T, L⟩ x = some (.ptr k ver off) := by rfl) (hd : o.dst = some d := by rfl) (hdN : d < N := by exact Nat.le_of_ble_eq_true rfl) : IL P fx ops (o :: r) K ⟨N, T, L⟩ :=
  IL.ok hg (IP.callBox hC ho hc hfo hen hx hv (by unfold fin; rw [hd]; exact ⟨hdN, hr⟩))
theorem SCall.of_bodyR {f : FuncId} {fn : Func} {c : Code} {A A' : List IV} {r : IV} (kp : Nat → Bool) (gs : List Bool) (htt : TTok P TT) (hf : P.funcs[f]? = some fn) (hb : fn.body = some c) (hN : A.length ≤ fn.ntmps) (hok : okIl A = true)
    (h : ∀ fx : Fx, fx.rd = none → (∀ k, (fx.par k).isSome = true → kp k = true) → IW P fx c (fun e σ => (e = .normal ∨ e = .ret) ∧ Fin fn TT kp gs A r A' σ) ⟨fn.ntmps, argT 0 (impl 0 A).1, (impl 0 A).2.map some⟩) : SCall P f A r A' :=
  (SCallF.of_bodyR (G := []) [] kp gs htt hf hb (by simpa [packIV, pk, impl_length] using hN) hok fun fx h0 h1 _ => h fx h0 h1).toG.toS
end
end Go.Lift
