import Derived.Below
import Derived.Sort.Grow
import Derived.Lib.LaidTab
import Derived.Deep.Draws
import Derived.Laws.ComplexArith
import Derived.Lib.SliceRun
import Derived.Shelf.Spec.SlicesInsert
import Derived.Lib.AppendZerosOnto
import Derived.Lib.SlicesDelete
import Derived.Test.YtclhjcbnpdlgbaaLA2
set_option linter.unusedVariables false
set_option linter.unusedSimpArgs false
/- Package variables: what they hold when a call begins, and is only read. -/
namespace Go.Lift
open Go Go.RowKit Go.ChangeShapes Go.WideShapes

def GOk (G : List (Nat × List IV)) (R : Nat → Prop) (w : World) : Prop := ∀ x ∈ G, R x.1 ∧ TRm R w x.2 x.1 0 ∧ ∃ (arr : Array Value) (t : TypeId) (fr : Nat × Nat), w.heap[x.1]? = some (.cells arr t fr) ∧ arr.size = x.2.length
theorem GOk.mono {G : List (Nat × List IV)} {R R' : Nat → Prop} {w w' : World} (hR : ∀ b, R b → R' b) (hw : HeapEq R w w') (h : GOk G R w) : GOk G R' w' := fun x hx => by
  obtain ⟨h1, h2, arr, t, fr, h3, h4⟩ := h x hx
  exact ⟨hR _ h1, TRm.mono hR hw _ _ _ h1 h2, arr, t, fr, by rw [hw _ h1]; exact h3, h4⟩
structure GFx (G : List (Nat × List IV)) (fx : Fx) : Prop where
  lt : ∀ b, fx.R0 b → b < fx.w0.heap.size
  no : ∀ b o, fx.R0 b → ¬ Owns fx.os b o
  ok : GOk G fx.R0 fx.w0
def SCallG (G : List (Nat × List IV)) (P : Program) (f : FuncId) (A : List IV) (r : IV) (A' : List IV) : Prop :=
  ∀ (w : World) (R : Nat → Prop) (vals : List Value) (os : List OwnR), BRl P R w A vals os → Disj os → (∀ b, R b → b < w.heap.size) → (∀ b o, R b → ¬ Owns os b o) → GOk G R w →
    Calls P f vals.toArray w fun e w' => ∃ v R' o1 o2, e = .returned v ∧ BR P R' w' r v o1 ∧ BRl P R' w' A' vals o2 ∧ Disj (o1 ++ o2) ∧ (∀ b, R b → R' b) ∧
      (∀ b, R' b → b < w'.heap.size ∧ (R b ∨ (∃ o, Owns os b o) ∨ w.heap.size ≤ b)) ∧ (∀ b o, R' b → ¬ Owns (o1 ++ o2) b o) ∧ (∀ b o, Owns (o1 ++ o2) b o → Owns os b o ∨ w.heap.size ≤ b) ∧ Fr w w' os


section
variable {G : List (Nat × List IV)} {P : Program} {TT : TTab} {fx : Fx} {o : Oper} {r : List Oper} {K : St → Prop} {i N : Nat}
theorem GFx.at {cx : Cx} {σ : St} {w : World} (hg : GFx G fx) (hm : Mem P fx cx σ w) : GOk G cx.R w :=
  GOk.mono hm.r0 (fun b hb => hm.fr.hblk b (hg.lt b hb) fun o => hg.no b o hb) hg.ok
theorem SCallG.of_body' {f : FuncId} {fn : Func} {c : Code} {A A' : List IV} {r : IV} (kp : Nat → Bool) (gs : List Bool) (htt : TTok P TT) (hf : P.funcs[f]? = some fn) (hb : fn.body = some c) (hN : A.length ≤ fn.ntmps) (hok : okIl A = true)
    (h : ∀ fx : Fx, (∀ k, (fx.par k).isSome = true → kp k = true) → GFx G fx → IW P fx c (fun e σ => (e = .normal ∨ e = .ret) ∧ Fin fn TT kp gs A r A' σ) ⟨fn.ntmps, argT 0 (impl 0 A).1, (impl 0 A).2.map some⟩) : SCallG G P f A r A' := by
  intro w R vals os hA hdis hRlt hRos hGk
  obtain ⟨ps, i1, i2, i3, i4⟩ := impl_sound A vals os 0 hok hA
  refine calls_of_wp hf hb ?_
  let fx : Fx := ⟨w, R, os, fun k => if kp k = true then ps[k]? else none⟩
  let cx : Cx := ⟨fun k ver => if ver = 0 then ps[k]? else none, R⟩
  let σ0 : St := ⟨fn.ntmps, argT 0 (impl 0 A).1, (impl 0 A).2.map some⟩
  obtain ⟨v1, v2⟩ := i4 cx (fun _ h => h) fun j p hj => by simp [cx, hj]
  have hatB : ∀ k b p, At cx σ0 k b p → (impl 0 A).2[k]? = some b ∧ ps[k]? = some p := fun k b p ⟨a1, a2⟩ => by
    simp only [σ0, List.getElem?_map] at a1
    have a1 : (impl 0 A).2[k]? = some b := by simpa using a1
    refine ⟨a1, ?_⟩
    simp only [cx] at a2
    split at a2
    · exact a2
    · cases a2
  have hm : Mem P fx cx σ0 w := by
    refine ⟨fun k b hb => ?_, fun k ver p hp => ?_, fun k k' b b' p p' h1 h2 hne => ?_, fun k b p h1 x hx bb o hh => ?_, fun k b p h1 x hx bb o hh => ?_, hRlt, fun b hb => .inl hb, fun b hb => hb, Fr.refl _ _, fun k p hp => ?_⟩
    · simp only [σ0, List.getElem?_map] at hb
      have hb : (impl 0 A).2[k]? = some b := by simpa using hb
      have hk := (List.getElem?_eq_some_iff.1 hb).1
      have hp : ps[k]? = some ps[k] := List.getElem?_eq_getElem (by omega)
      exact ⟨ps[k], by simp [cx, (i3 b (List.mem_of_getElem? hb)).1, hp], v2 k b _ hb hp⟩
    · simp only [cx] at hp
      split at hp
      · rename_i hv
        subst hv
        have := (List.getElem?_eq_some_iff.1 hp).1
        exact ⟨by simp only [σ0, List.length_map]; omega, fun b _ => Nat.zero_le _⟩
      · cases hp
    · obtain ⟨a1, a2⟩ := hatB k b p h1
      obtain ⟨a3, a4⟩ := hatB k' b' p' h2
      exact rngs_disj' (by rw [i2]; exact hdis) a1 a2 a3 a4 hne
    · obtain ⟨a1, a2⟩ := hatB k b p h1
      have hz : x ∈ os := by rw [← i2]; exact rngs_get a1 a2 x hx
      exact ⟨fun _ hR => hRos bb o hR ⟨x, hz, hh⟩, fun hf => by rw [(i3 b (List.mem_of_getElem? a1)).2] at hf; cases hf⟩
    · obtain ⟨a1, a2⟩ := hatB k b p h1
      exact .inl ⟨x, (show x ∈ os by rw [← i2]; exact rngs_get a1 a2 x hx), hh⟩
    · simp only [fx] at hp
      split at hp
      · simp [cx, hp]
      · cases hp
  have hlen := impl_length A 0
  have hvl : vals.length = A.length := by rw [← hlen]; exact v1.length
  have hs : Tmps cx σ0 { tmps := vals.toArray ++ Array.replicate (fn.ntmps - vals.toArray.size) undef, defers := [] } w := by
    refine ⟨rfl, by simp [σ0]; omega, fun t x hx => ?_⟩
    obtain ⟨_, h2⟩ := lk_argT hx
    simp at h2
    obtain ⟨y, g1, g2⟩ := v1.get t x h2
    have ht : t < vals.length := (List.getElem?_eq_some_iff.1 g1).1
    refine ⟨y, ?_, g2⟩
    rw [Array.getElem?_append, if_pos (by simpa using ht)]
    simpa using g1
  refine h fx (fun k hk => ?_) ⟨hRlt, hRos, hGk⟩ cx _ w _ ⟨hm, hs⟩ fun e σ' cx' a' w' hQ hs' => ?_
  · simp only [fx] at hk
    split at hk
    · assumption
    · cases hk
  obtain ⟨he, k1, k2, hr, ho, hnd⟩ := hQ
  have hR : ∀ b, R b → cx'.R b := hs'.m.r0
  have hw : HeapEq R w w' := fun b hb => hs'.m.fr.hblk b (hRlt b hb) fun o ho => hRos b o hb ho
  obtain ⟨o2, c1, c2⟩ := outA_sound hs'.m hR hw (cx0 := cx) (fun k p hk hp => hs'.m.par k p (by simp only [cx, if_pos] at hp; simp [fx, hk, hp])) ho v1 hA
  have main : ∃ v, (results fn a'.tmps).run P w' = .ok v w' ∧ ∃ o1, BR P cx'.R w' r v o1 ∧ Cov cx' σ' k1 o1 := by
    unfold resX at hr
    split at hr
    · rename_i x hx
      obtain ⟨ys, r1, r2⟩ := results_run htt hs' hx
      unfold VXl at r2
      obtain ⟨y, ys', rfl, r2, r3⟩ := r2
      unfold VXl at r3; subst r3
      obtain ⟨o1, b1, b2⟩ := exO_sound hs'.m 3 _ _ _ _ hr r2
      exact ⟨y, by simpa using r1, o1, b1, b2⟩
    · rename_i xs hne hx
      obtain ⟨ys, r1, r2⟩ := results_run htt hs' hx
      obtain ⟨o1, b1, b2⟩ := exO_sound hs'.m 3 _ _ _ (.tuple ys.toArray) hr (by unfold VX; exact ⟨_, rfl, by simpa using r2⟩)
      have hl : ys.length ≠ 1 := by
        rw [r2.length]
        intro h1
        match xs, h1 with
        | [x], _ => exact hne x rfl
      exact ⟨.tuple ys.toArray, by simpa [hl] using r1, o1, b1, b2⟩
    · cases hr
  obtain ⟨v, hv, o1, b1, b2⟩ := main
  have hcov := b2.append c2
  have rest : ∃ v' R' o1 o2, (Ending.returned v = .returned v') ∧ BR P R' w' r v' o1 ∧ BRl P R' w' A' vals o2 ∧ Disj (o1 ++ o2) ∧ (∀ b, R b → R' b) ∧
      (∀ b, R' b → b < w'.heap.size ∧ (R b ∨ (∃ o, Owns os b o) ∨ w.heap.size ≤ b)) ∧ (∀ b o, R' b → ¬ Owns (o1 ++ o2) b o) ∧ (∀ b o, Owns (o1 ++ o2) b o → Owns os b o ∨ w.heap.size ≤ b) ∧ Fr w w' os := by
    refine ⟨v, cx'.R, o1, o2, rfl, b1, c1, hcov.disj hs'.m hnd, hR, fun b hb => ⟨hs'.m.rlt b hb, hs'.m.rin b hb⟩, fun b o hb ho => ?_, fun b o ho => ?_, hs'.m.fr⟩
    · obtain ⟨z, hz, hh⟩ := ho
      obtain ⟨k, bb, p, _, e2, e3, e4⟩ := hcov.mem z hz
      exact (hs'.m.nor k bb p e2 z e4 b o hh).1 e3 hb
    · obtain ⟨z, hz, hh⟩ := ho
      obtain ⟨k, bb, p, _, e2, e3, e4⟩ := hcov.mem z hz
      exact hs'.m.wit k bb p e2 z e4 b o hh
  rcases he with rfl | rfl
  · exact ⟨hs'.s.dfr, v, hv, rest⟩
  · exact ⟨hs'.s.dfr, v, hv, rest⟩
section
variable {ops : List Oper} {X B lo hi : List Nat} {T T' : List (Nat × IV)} {L L' : List (Option Blk)} {Ls : List (List (Option Blk))}
variable {σ : St} {Q : Exit → St → Prop} {Nn : St → Prop}
end
end
section
variable {G : List (Nat × List IV)} {P : Program} {H : Type} {enc : TypeId × Value → H}
end
end Go.Lift
/- A law's row with the sizes of all rows, those inside others too (package variables may be read). -/
namespace Go.Lift
open Go Go.RowKit Go.ChangeShapes Go.WideShapes

inductive WSh where
  | no
  | row (b : Nat) (es : List WSh)
mutual
def Sz : WSh → IV → Prop
  | .no, _ => True
  | .row b es, x => ∀ n cs, x = .tr n cs → n * b ≤ reachBytes ∧ ∀ i, i < n → Szl es ((cs.drop (i * es.length)).take es.length)
def Szl : List WSh → List IV → Prop
  | s :: ss, x :: xs => Sz s x ∧ Szl ss xs
  | _, _ => True
end
mutual
inductive WT (P : Program) : TypeId → List WSh → Prop
  | one {t : TypeId} : WT P t [.no]
  | slice {t e : TypeId} {b : Nat} {es : List WSh} (h : P.underlying t = some (.slice e)) (hb : P.bytesOf e = b) (he : WT P e es) (hz : P.cellsOf e = es.length) : WT P t [.row b es]
  | struct {t : TypeId} {fs : Array Field} {ss : List WSh} (h : P.underlying t = some (.struct fs)) (hf : WF P fs.toList 0 ss) : WT P t ss
inductive WF (P : Program) : List Field → Nat → List WSh → Prop
  | nil {off : Nat} : WF P [] off []
  | cons {f : Field} {fs : List Field} {off : Nat} {s1 s2 : List WSh} (ho : f.offset = off) (h : WT P f.type s1) (hz : P.cellsOf f.type = s1.length) (hr : WF P fs (off + s1.length) s2) : WF P (f :: fs) off (s1 ++ s2)
end
def PW (R : Nat → Prop) (w : World) (xs : List IV) (cs : List Value) : Prop := ∀ (i : Nat) (x : IV), xs[i]? = some x → ∃ v : Value, cs[i]? = some v ∧ TR R w x v
theorem Szl.app : ∀ {s1 s2 : List WSh} {xs : List IV}, Szl s1 (xs.take s1.length) → Szl s2 (xs.drop s1.length) → Szl (s1 ++ s2) xs
  | [], s2, xs, _, h => by simpa using h
  | s :: s1, s2, [], _, _ => by simp [Szl]
  | s :: s1, s2, x :: xs, h1, h2 => by
    simp only [List.length_cons, List.take_succ_cons, Szl] at h1
    simp only [List.cons_append, Szl]
    exact ⟨h1.1, Szl.app h1.2 (by simpa using h2)⟩
theorem Szl.nil (s : List WSh) : Szl s [] := by cases s <;> simp [Szl]
section
variable {P : Program} {H : Type} {enc : TypeId × Value → H} {w : World} {base : Nat} {spare : Nat → Bool} {held : Bool} {R : Nat → Prop}
theorem PW.take {xs : List IV} {cs : List Value} (h : PW R w xs cs) (k : Nat) : PW R w (xs.take k) (cs.take k) := fun i x hx => by
  rw [List.getElem?_take] at hx
  split at hx
  · obtain ⟨v, h1, h2⟩ := h i x hx
    exact ⟨v, by rw [List.getElem?_take, if_pos ‹_›]; exact h1, h2⟩
  · cases hx
theorem PW.drop {xs : List IV} {cs : List Value} (h : PW R w xs cs) (k : Nat) : PW R w (xs.drop k) (cs.drop k) := fun i x hx => by
  rw [List.getElem?_drop] at hx ⊢
  exact h _ x hx
theorem weightsAll_le {t : TypeId} : ∀ {l : List (DataW H)} {i : Nat} {d : DataW H}, (DataW.weightsAll P t l).all (· ≤ reachBytes) = true → l[i]? = some d → (d.weights P t).all (· ≤ reachBytes) = true
  | [], i, d, _, h => by simp at h
  | e :: l, 0, d, ha, h => by
    simp at h; subst h
    rw [DataW.weightsAll, List.all_append, Bool.and_eq_true] at ha
    exact ha.1
  | e :: l, i + 1, d, ha, h => by
    rw [DataW.weightsAll, List.all_append, Bool.and_eq_true] at ha
    exact weightsAll_le ha.2 (by simpa using h)
theorem weightsEach_le : ∀ {ts : List TypeId} {l : List (DataW H)} {i : Nat} {t : TypeId} {d : DataW H}, (DataW.weightsEach P ts l).all (· ≤ reachBytes) = true → ts[i]? = some t → l[i]? = some d → (d.weights P t).all (· ≤ reachBytes) = true
  | [], l, i, t, d, _, h, _ => by simp at h
  | t :: ts, [], i, _, d, _, _, h => by simp at h
  | t :: ts, e :: l, 0, _, d, ha, h1, h2 => by
    simp at h1 h2; subst h1; subst h2
    rw [DataW.weightsEach, List.all_append, Bool.and_eq_true] at ha
    exact ha.1
  | t :: ts, e :: l, i + 1, _, d, ha, h1, h2 => by
    rw [DataW.weightsEach, List.all_append, Bool.and_eq_true] at ha
    exact weightsEach_le ha.2 (by simpa using h1) (by simpa using h2)
theorem trod_sz : ∀ (fuel : Nat) (t : TypeId) (ws : List WSh) (cs : List Value) (x : DataW H × List MemPlace) (xs : List IV), WT P t ws → DataW.trod enc P w base spare held fuel t cs = some x → (x.1.weights P t).all (· ≤ reachBytes) = true → PW R w xs cs → Szl ws xs
  | 0, t, ws, cs, x, xs, _, h, _, _ => by simp [DataW.trod] at h
  | n + 1, t, ws, cs, x, xs, hs, h, hz, hp => by
    cases hs with
    | one => cases xs <;> simp [Szl, Sz]
    | @slice _ e b es hu hb he hc =>
      cases xs with
      | nil => exact Szl.nil _
      | cons y ys =>
        obtain ⟨v, hv, hT⟩ := hp 0 y rfl
        refine ⟨?_, by simp [Szl]⟩
        unfold Sz
        rintro m ds rfl
        unfold TR at hT
        obtain ⟨a, c, rfl, hmc, hT⟩ := hT
        rcases DataW.trod_slice hu h with ⟨rfl, _⟩ | ⟨a', len, cap, elems, rest, m', hm, rfl, rfl, _, hl, _, hlen, hel, _⟩
        · simp at hv
          obtain ⟨_, rfl, _⟩ := hv
          simp
        · cases hm
          simp at hv
          obtain ⟨rfl, rfl, rfl⟩ := hv
          simp only [DataW.weights, hu, List.all_cons, Bool.and_eq_true, decide_eq_true_eq, List.length_map, List.all_append] at hz
          refine ⟨Nat.le_trans (by rw [hb.symm]; exact Nat.mul_le_mul_right _ (by omega)) hz.1, fun i hi => ?_⟩
          rcases hT with rfl | ⟨bb, o, e1, _, hT⟩
          · simp [Szl.nil]
          · cases e1
            have h1 := hel i hi
            rw [List.getElem?_eq_getElem (show i < elems.length by omega)] at h1
            obtain ⟨vs, h2, h3⟩ := Option.bind_eq_some_iff.1 h1
            refine trod_sz n e es vs _ _ he h3 (weightsAll_le hz.2.1 (i := i) (by rw [List.getElem?_map, List.getElem?_eq_getElem (show i < elems.length by omega)]; rfl)) ?_
            intro j x hx
            rw [List.getElem?_take] at hx
            split at hx
            · rw [List.getElem?_drop] at hx
              obtain ⟨y, g1, g2, _⟩ := TRm.get hT _ x hx
              obtain ⟨q1, q2⟩ := cells?_get h2
              have := q2 j (by rw [hc]; assumption)
              refine ⟨y, ?_, g2⟩
              rw [← this, hc, Addr.add_add, add_addr _ _ rfl]
              exact g1
            · cases hx
    | @struct _ fs _ hu hf =>
      obtain ⟨ys, m, hm, rfl, hl, hlen, hfs⟩ := DataW.trod_struct hu h
      cases hm
      simp only [DataW.weights, hu] at hz
      have go : ∀ (gs : List Field) (k off : Nat) (s : List WSh), (∀ j f, gs[j]? = some f → fs[k + j]? = some f) → WF P gs off s → Szl s (xs.drop off) := by
        intro gs
        induction gs with
        | nil => intro k off s _ hs; cases hs; simp [Szl]
        | cons f gs ih =>
          intro k off s hg hs
          cases hs with
          | cons ho hT hz' hr =>
            rename_i s1 s2
            have hf0 := hg 0 f rfl
            have hk : k < fs.size := (Array.getElem?_eq_some_iff.1 hf0).1
            have hy := hfs k f hf0
            rw [List.getElem?_eq_getElem (show k < ys.length by omega)] at hy
            refine Szl.app (trod_sz n f.type s1 _ _ _ hT hy (weightsEach_le hz (i := k) (by rw [List.getElem?_map, Array.getElem?_toList]; simp only [Nat.add_zero] at hf0; rw [hf0]; rfl) (by rw [List.getElem?_map, List.getElem?_eq_getElem (show k < ys.length by omega)]; rfl)) ?_) ?_
            · rw [ho, hz']
              exact (hp.drop off).take _
            · rw [List.drop_drop]
              exact ih (k + 1) _ _ (fun j f' hj => by have := hg (j + 1) f' (by simpa using hj); rwa [show k + 1 + j = k + (j + 1) by omega]) hr
      have := go fs.toList 0 0 _ (fun j f hj => by rw [Nat.zero_add]; simpa using hj) hf
      simpa using this
def Sz1 (s : List WSh) : IV → Prop
  | .agg xs => Szl s xs
  | .tr n cs => Szl s [.tr n cs]
  | _ => True
def SzA : List (List WSh) → List IV → Prop
  | s :: ss, x :: A => Sz1 s x ∧ SzA ss A
  | _, _ => True
inductive WTA (P : Program) : List TypeId → List (List WSh) → Prop
  | nil : WTA P [] []
  | cons {t : TypeId} {ts : List TypeId} {s : List WSh} {ss : List (List WSh)} (h : WT P t s) (hr : WTA P ts ss) : WTA P (t :: ts) (s :: ss)
theorem szA : ∀ {ts : List TypeId} {ss : List (List WSh)} {A : List IV} {vs : List Value} {ds : List (DataW H)} {q : List MemPlace} {os : List OwnR} {vt : List TypeId} {gs : List (DataW H)}, WTA P ts ss → DataW.TrodAll enc P w base spare held ts vs ds q → BRl P R w A vs os →
    (DataW.weightsEach P (ts ++ vt) (ds ++ gs)).all (· ≤ reachBytes) = true → SzA ss A
  | [], ss, A, vs, ds, q, os, vt, gs, hw, h, hA, _ => by
    cases hw
    cases A <;> simp [SzA]
  | t :: ts, ss, A, vs, ds, q, os, vt, gs, hw, h, hA, hz => by
    obtain ⟨v, vs', d, ds', p1, p2, rfl, rfl, rfl, h1, h2⟩ := trodAll_cons h
    cases hw with
    | cons hw hws =>
      cases A with
      | nil => simp [SzA]
      | cons x xs =>
        unfold BRl at hA
        obtain ⟨y, ys, o1, o2, e, r1, r2, _⟩ := hA
        cases e
        simp only [List.cons_append, DataW.weightsEach, List.all_append, Bool.and_eq_true] at hz
        obtain ⟨fuel, h1⟩ := h1
        unfold SzA
        refine ⟨?_, szA hws h2 r2 hz.2⟩
        unfold Sz1
        split
        · unfold BR TR at r1
          obtain ⟨⟨arr, rfl, hT⟩, _⟩ := r1
          exact trod_sz fuel t _ _ _ _ hw h1 hz.1 fun i x hi => by
            obtain ⟨y, g1, g2, _⟩ := hT.get i x hi
            exact ⟨y, by simpa [Value.cells] using g1, g2⟩
        · unfold BR at r1
          have r3 := r1.1
          unfold TR at r3
          obtain ⟨a, c, rfl, _⟩ := r3
          exact trod_sz (R := R) fuel t _ _ _ _ hw h1 hz.1 fun i x hi => by
            match i, hi with
            | 0, hi =>
              simp at hi; subst hi
              exact ⟨_, rfl, r1.1⟩
            | i + 1, hi => simp at hi
        · trivial
theorem law_contractGW {G : List (Nat × List IV)} {f : FuncId} {fn : Func} {s : ChangeSpec} {tb : TypeId} {ps : List Par} {ws : List (List WSh)} (hl : laidOutB P = true) (hvars : s.vars = []) (hspec : ∀ ds : List (DataW H), ds.length = fn.params.toList.length → s.fn H ds = { results := [.lit (.bool true)], args := ds })
    (hres : fn.resultTypes = #[tb]) (hb : P.underlying tb = some .bool) (hread : ∀ t ∈ fn.params.toList, P.readableRec t = true ∧ t < P.types.size) (hsh : ShA P fn.params.toList ps) (hws : WTA P fn.params.toList ws) (hS : ∀ A, TyA ps A → SzA ws A → ∃ A', SCallG G P f A (.v (.bool true)) A')
    (W : World) (hGk : GOk G (Rb W) W) (base : Nat) (args : Array Value) (ds gs : List (DataW H)) (before : List MemPlace) (hval : ∀ (j : Nat) t v, fn.params[j]? = some t → args[j]? = some v → Value.okWide P W .any base t v)
    (hW : DataW.Whole enc P fn.params.toList s.vars false W args.toList ds gs before)
    (hsz : (DataW.weightsEach P (fn.params.toList ++ s.plain.varTypes P) (ds ++ gs)).all (· ≤ reachBytes) = true) : Calls P f args W fun e W' => ∃ v, e = .returned v ∧ s.post enc P fn false true false false W args v W' := by
  have hW' := hW
  obtain ⟨p, q, hA, hV, rfl, hfz, hnd⟩ := hW
  rw [hvars] at hV
  obtain ⟨rfl, rfl⟩ := trodVars_none hV
  obtain ⟨A, hty, hBR⟩ := trodAll_ty hsh hA (r := .any) (b := base) fun j t v ht hv => hval j t v (by simpa using ht) (by simpa using hv)
  obtain ⟨A', hS⟩ := hS A hty (szA hws hA hBR hsz)
  refine (hS W (Rb W) args.toList [] hBR (by simp [Disj]) (fun b hb => hb) (fun b o _ ⟨r, hr, _⟩ => by simp at hr) hGk).mono ?_
  rintro e W' ⟨v, R', o1, o2, rfl, r1, _, _, _, _, _, _, hfr⟩
  unfold BR at r1
  obtain ⟨rfl, _⟩ := r1
  have bel := below_of_fr hfr
  have hlen : ds.length = fn.params.toList.length := by
    have : ∀ {ts : List TypeId} {vs : List Value} {ds : List (DataW H)} {q : List MemPlace}, DataW.TrodAll enc P W 0 (fun _ => true) true ts vs ds q → ds.length = ts.length := by
      intro ts
      induction ts with
      | nil => intro vs ds q h; cases vs <;> cases ds <;> simp [DataW.TrodAll] at h ⊢
      | cons t ts ih =>
        intro vs ds q h
        obtain ⟨v, vs', d, ds', p1, p2, rfl, rfl, rfl, h1, h2⟩ := trodAll_cons h
        simp [ih h2]
    exact this hA
  refine ⟨_, rfl, ds, [], p ++ [], [], p, [], hW', ?_, ?_, ?_, bel.frame _, fun h => by cases h⟩
  · rw [List.append_nil, hspec ds hlen, hres]
    exact trodAll_mk1 (shut_bool hb _)
  · rw [List.append_nil, hspec ds hlen]
    exact trodAll_below hl bel hread hA
  · rw [List.append_nil, hspec ds hlen, hvars]
    rfl
end
end Go.Lift
/- The kit's own contracts, as contracts of this library: plain values in, plain values out. -/
namespace Go.Lift
open Go Go.RowKit

end Go.Lift
/- Function values: what is handed over to a function that is handed a function, laid flat: the variables that it captured stand in the list by themselves. -/
namespace Go.Lift
open Go Go.RowKit

def pk {α : Type} (mk : FuncId → List α → α) : List (Option (FuncId × Nat)) → List α → List α
  | [], xs => xs
  | none :: _, [] => []
  | none :: fs, x :: xs => x :: pk mk fs xs
  | some (g, m) :: fs, xs => mk g (xs.take m) :: pk mk fs (xs.drop m)
def packIV (fs : List (Option (FuncId × Nat))) (xs : List IV) : List IV := pk (fun g cs => .fn (.func g) cs) fs xs
def packV (fs : List (Option (FuncId × Nat))) (xs : List Value) : List Value := pk (fun g cs => .func (.func g) #[] cs.toArray) fs xs
def unpk : List (Option (FuncId × Nat)) → List IV → List IV
  | none :: fs, x :: xs => x :: unpk fs xs
  | some _ :: fs, .fn _ cs :: xs => cs ++ unpk fs xs
  | _, xs => xs
theorem VXl.drop {cx : Cx} {w : World} {xs : List IV} {ys : List Value} (h : VXl cx w xs ys) (n : Nat) : VXl cx w (xs.drop n) (ys.drop n) :=
  VXl.of_get (by simp [h.length]) fun i x y hx hy => by
    rw [List.getElem?_drop] at hx hy
    obtain ⟨y', h1, h2⟩ := h.get _ x hx
    rw [hy] at h1; cases h1; exact h2
theorem VXl.app {cx : Cx} {w : World} {xs xs' : List IV} {ys ys' : List Value} (h : VXl cx w xs ys) (h' : VXl cx w xs' ys') : VXl cx w (xs ++ xs') (ys ++ ys') := by
  refine VXl.of_get (by simp [h.length, h'.length]) fun i x y hx hy => ?_
  rw [List.getElem?_append] at hx hy
  rw [h.length] at hy
  split at hx <;> rename_i hi
  · rw [if_pos hi] at hy
    obtain ⟨y', h1, h2⟩ := h.get i x hx
    rw [hy] at h1; cases h1; exact h2
  · rw [if_neg hi] at hy
    obtain ⟨y', h1, h2⟩ := h'.get _ x hx
    rw [hy] at h1; cases h1; exact h2
theorem pk_vx {cx : Cx} {w : World} : ∀ {fs : List (Option (FuncId × Nat))} {xs : List IV} {ys : List Value}, VXl cx w xs ys → VXl cx w (packIV fs xs) (packV fs ys)
  | [], xs, ys, h => h
  | none :: fs, [], ys, h => by
    unfold VXl at h; subst h
    exact VXl.nil
  | none :: fs, x :: xs, ys, h => by
    unfold VXl at h
    obtain ⟨y, ys', rfl, h1, h2⟩ := h
    exact VXl.cons h1 (pk_vx h2)
  | some (g, m) :: fs, xs, ys, h => by
    refine VXl.cons ?_ (pk_vx (h.drop m))
    unfold VX
    exact ⟨_, rfl, by simpa using h.take m⟩
theorem pk_inv {cx : Cx} {w : World} : ∀ {fs : List (Option (FuncId × Nat))} {xs : List IV} {ys : List Value}, VXl cx w (packIV fs xs) ys → ∃ us, VXl cx w xs us ∧ ys = packV fs us
  | [], xs, ys, h => ⟨ys, h, rfl⟩
  | none :: fs, [], ys, h => by
    simp only [packIV, pk, VXl] at h; subst h
    exact ⟨[], VXl.nil, rfl⟩
  | none :: fs, x :: xs, ys, h => by
    simp only [packIV, pk, VXl] at h
    obtain ⟨y, ys', rfl, h1, h2⟩ := h
    obtain ⟨us, h3, rfl⟩ := pk_inv (fs := fs) h2
    exact ⟨y :: us, VXl.cons h1 h3, rfl⟩
  | some (g, m) :: fs, xs, ys, h => by
    simp only [packIV, pk, VXl] at h
    obtain ⟨y, ys', rfl, h1, h2⟩ := h
    obtain ⟨us, h3, rfl⟩ := pk_inv (fs := fs) h2
    unfold VX at h1
    obtain ⟨arr, rfl, h1⟩ := h1
    have hl := h1.length
    have hl3 := h3.length
    simp only [List.length_take, List.length_drop, Array.length_toList] at hl hl3
    refine ⟨arr.toList ++ us, by have := h1.app h3; rwa [List.take_append_drop] at this, ?_⟩
    rcases Nat.le_total m xs.length with hm | hm
    · have e : arr.toList.length = m := by rw [Array.length_toList, hl]; omega
      simp only [packV, pk, List.cons.injEq]
      refine ⟨by rw [← e, List.take_left], by rw [← e, List.drop_left]⟩
    · have e : us = [] := List.eq_nil_of_length_eq_zero (by omega)
      subst e
      simp only [packV, pk, List.cons.injEq, List.append_nil]
      rw [List.take_of_length_le (by simp; omega), List.drop_of_length_le (by simp; omega)]
      exact ⟨rfl, rfl⟩
def SCallF (G : List (Nat × List IV)) (P : Program) (f : FuncId) (fs : List (Option (FuncId × Nat))) (A : List IV) (r : IV) (A' : List IV) : Prop :=
  ∀ (w : World) (R : Nat → Prop) (vals : List Value) (os : List OwnR), BRl P R w A vals os → Disj os → (∀ b, R b → b < w.heap.size) → (∀ b o, R b → ¬ Owns os b o) → GOk G R w →
    Calls P f (packV fs vals).toArray w fun e w' => ∃ v R' o1 o2, e = .returned v ∧ BR P R' w' r v o1 ∧ BRl P R' w' A' vals o2 ∧ Disj (o1 ++ o2) ∧ (∀ b, R b → R' b) ∧
      (∀ b, R' b → b < w'.heap.size ∧ (R b ∨ (∃ o, Owns os b o) ∨ w.heap.size ≤ b)) ∧ (∀ b o, R' b → ¬ Owns (o1 ++ o2) b o) ∧ (∀ b o, Owns (o1 ++ o2) b o → Owns os b o ∨ w.heap.size ≤ b) ∧ Fr w w' os
section
variable {G : List (Nat × List IV)} {P : Program} {TT : TTab} {fx : Fx} {o : Oper} {r : List Oper} {K : St → Prop} {i N : Nat}
theorem SCallF.toG {f : FuncId} {A A' : List IV} {r : IV} (h : SCallF G P f [] A r A') : SCallG G P f A r A' := h
theorem SCallG.toS {f : FuncId} {A A' : List IV} {r : IV} (h : SCallG [] P f A r A') : SCall P f A r A' := fun w R vals os a b c d => h w R vals os a b c d fun x hx => by simp at hx
theorem SCallF.of_body' (fs : List (Option (FuncId × Nat))) {f : FuncId} {fn : Func} {c : Code} {A A' : List IV} {r : IV} (kp : Nat → Bool) (gs : List Bool) (htt : TTok P TT) (hf : P.funcs[f]? = some fn) (hb : fn.body = some c) (hN : (packIV fs (impl 0 A).1).length ≤ fn.ntmps) (hok : okIl A = true)
    (h : ∀ fx : Fx, (∀ k, (fx.par k).isSome = true → kp k = true) → GFx G fx → IW P fx c (fun e σ => (e = .normal ∨ e = .ret) ∧ Fin fn TT kp gs A r A' σ) ⟨fn.ntmps, argT 0 (packIV fs (impl 0 A).1), (impl 0 A).2.map some⟩) : SCallF G P f fs A r A' := by
  intro w R vals os hA hdis hRlt hRos hGk
  obtain ⟨ps, i1, i2, i3, i4⟩ := impl_sound A vals os 0 hok hA
  refine calls_of_wp hf hb ?_
  let fx : Fx := ⟨w, R, os, fun k => if kp k = true then ps[k]? else none⟩
  let cx : Cx := ⟨fun k ver => if ver = 0 then ps[k]? else none, R⟩
  let σ0 : St := ⟨fn.ntmps, argT 0 (packIV fs (impl 0 A).1), (impl 0 A).2.map some⟩
  obtain ⟨v1, v2⟩ := i4 cx (fun _ h => h) fun j p hj => by simp [cx, hj]
  have hatB : ∀ k b p, At cx σ0 k b p → (impl 0 A).2[k]? = some b ∧ ps[k]? = some p := fun k b p ⟨a1, a2⟩ => by
    simp only [σ0, List.getElem?_map] at a1
    have a1 : (impl 0 A).2[k]? = some b := by simpa using a1
    refine ⟨a1, ?_⟩
    simp only [cx] at a2
    split at a2
    · exact a2
    · cases a2
  have hm : Mem P fx cx σ0 w := by
    refine ⟨fun k b hb => ?_, fun k ver p hp => ?_, fun k k' b b' p p' h1 h2 hne => ?_, fun k b p h1 x hx bb o hh => ?_, fun k b p h1 x hx bb o hh => ?_, hRlt, fun b hb => .inl hb, fun b hb => hb, Fr.refl _ _, fun k p hp => ?_⟩
    · simp only [σ0, List.getElem?_map] at hb
      have hb : (impl 0 A).2[k]? = some b := by simpa using hb
      have hk := (List.getElem?_eq_some_iff.1 hb).1
      have hp : ps[k]? = some ps[k] := List.getElem?_eq_getElem (by omega)
      exact ⟨ps[k], by simp [cx, (i3 b (List.mem_of_getElem? hb)).1, hp], v2 k b _ hb hp⟩
    · simp only [cx] at hp
      split at hp
      · rename_i hv
        subst hv
        have := (List.getElem?_eq_some_iff.1 hp).1
        exact ⟨by simp only [σ0, List.length_map]; omega, fun b _ => Nat.zero_le _⟩
      · cases hp
    · obtain ⟨a1, a2⟩ := hatB k b p h1
      obtain ⟨a3, a4⟩ := hatB k' b' p' h2
      exact rngs_disj' (by rw [i2]; exact hdis) a1 a2 a3 a4 hne
    · obtain ⟨a1, a2⟩ := hatB k b p h1
      have hz : x ∈ os := by rw [← i2]; exact rngs_get a1 a2 x hx
      exact ⟨fun _ hR => hRos bb o hR ⟨x, hz, hh⟩, fun hf => by rw [(i3 b (List.mem_of_getElem? a1)).2] at hf; cases hf⟩
    · obtain ⟨a1, a2⟩ := hatB k b p h1
      exact .inl ⟨x, (show x ∈ os by rw [← i2]; exact rngs_get a1 a2 x hx), hh⟩
    · simp only [fx] at hp
      split at hp
      · simp [cx, hp]
      · cases hp
  have v1' := pk_vx (fs := fs) v1
  have hvl : (packV fs vals).length = (packIV fs (impl 0 A).1).length := v1'.length
  have hs : Tmps cx σ0 { tmps := (packV fs vals).toArray ++ Array.replicate (fn.ntmps - (packV fs vals).toArray.size) undef, defers := [] } w := by
    refine ⟨rfl, by simp [σ0]; omega, fun t x hx => ?_⟩
    obtain ⟨_, h2⟩ := lk_argT hx
    simp at h2
    obtain ⟨y, g1, g2⟩ := v1'.get t x h2
    have ht : t < (packV fs vals).length := (List.getElem?_eq_some_iff.1 g1).1
    refine ⟨y, ?_, g2⟩
    rw [Array.getElem?_append, if_pos (by simpa using ht)]
    simpa using g1
  refine h fx (fun k hk => ?_) ⟨hRlt, hRos, hGk⟩ cx _ w _ ⟨hm, hs⟩ fun e σ' cx' a' w' hQ hs' => ?_
  · simp only [fx] at hk
    split at hk
    · assumption
    · cases hk
  obtain ⟨he, k1, k2, hr, ho, hnd⟩ := hQ
  have hR : ∀ b, R b → cx'.R b := hs'.m.r0
  have hw : HeapEq R w w' := fun b hb => hs'.m.fr.hblk b (hRlt b hb) fun o ho => hRos b o hb ho
  obtain ⟨o2, c1, c2⟩ := outA_sound hs'.m hR hw (cx0 := cx) (fun k p hk hp => hs'.m.par k p (by simp only [cx, if_pos] at hp; simp [fx, hk, hp])) ho v1 hA
  have main : ∃ v, (results fn a'.tmps).run P w' = .ok v w' ∧ ∃ o1, BR P cx'.R w' r v o1 ∧ Cov cx' σ' k1 o1 := by
    unfold resX at hr
    split at hr
    · rename_i x hx
      obtain ⟨ys, r1, r2⟩ := results_run htt hs' hx
      unfold VXl at r2
      obtain ⟨y, ys', rfl, r2, r3⟩ := r2
      unfold VXl at r3; subst r3
      obtain ⟨o1, b1, b2⟩ := exO_sound hs'.m 3 _ _ _ _ hr r2
      exact ⟨y, by simpa using r1, o1, b1, b2⟩
    · rename_i xs hne hx
      obtain ⟨ys, r1, r2⟩ := results_run htt hs' hx
      obtain ⟨o1, b1, b2⟩ := exO_sound hs'.m 3 _ _ _ (.tuple ys.toArray) hr (by unfold VX; exact ⟨_, rfl, by simpa using r2⟩)
      have hl : ys.length ≠ 1 := by
        rw [r2.length]
        intro h1
        match xs, h1 with
        | [x], _ => exact hne x rfl
      exact ⟨.tuple ys.toArray, by simpa [hl] using r1, o1, b1, b2⟩
    · cases hr
  obtain ⟨v, hv, o1, b1, b2⟩ := main
  have hcov := b2.append c2
  have rest : ∃ v' R' o1 o2, (Ending.returned v = .returned v') ∧ BR P R' w' r v' o1 ∧ BRl P R' w' A' vals o2 ∧ Disj (o1 ++ o2) ∧ (∀ b, R b → R' b) ∧
      (∀ b, R' b → b < w'.heap.size ∧ (R b ∨ (∃ o, Owns os b o) ∨ w.heap.size ≤ b)) ∧ (∀ b o, R' b → ¬ Owns (o1 ++ o2) b o) ∧ (∀ b o, Owns (o1 ++ o2) b o → Owns os b o ∨ w.heap.size ≤ b) ∧ Fr w w' os := by
    refine ⟨v, cx'.R, o1, o2, rfl, b1, c1, hcov.disj hs'.m hnd, hR, fun b hb => ⟨hs'.m.rlt b hb, hs'.m.rin b hb⟩, fun b o hb ho => ?_, fun b o ho => ?_, hs'.m.fr⟩
    · obtain ⟨z, hz, hh⟩ := ho
      obtain ⟨k, bb, p, _, e2, e3, e4⟩ := hcov.mem z hz
      exact (hs'.m.nor k bb p e2 z e4 b o hh).1 e3 hb
    · obtain ⟨z, hz, hh⟩ := ho
      obtain ⟨k, bb, p, _, e2, e3, e4⟩ := hcov.mem z hz
      exact hs'.m.wit k bb p e2 z e4 b o hh
  rcases he with rfl | rfl
  · exact ⟨hs'.s.dfr, v, hv, rest⟩
  · exact ⟨hs'.s.dfr, v, hv, rest⟩
theorem IP.callF (hgf : GFx G fx) (htt : TTok P TT) {o : Oper} {c : Call} {fo : Operand} {f : FuncId} {fs : List (Option (FuncId × Nat))} {caps xs uxs A A' : List IV} {r : IV} {σ : St} {K : St → Prop} (ms : List Md) {bs ks : List Nat} (keep : Bool) {sets : List (Nat × Blk)} {pushes : List Blk}
    (ho : o.op = .call c) (hc : c.callee = .value fo) (hfo : ev σ fo = some (.fn (.func f) caps)) (hen : Ent P f) (hx : evs σ c.args.toList = some xs) (hpk : packIV fs uxs = xs ++ caps) (hA : exA σ.L TT ms uxs = some (A, bs, ks)) (hnd : ks.Nodup) (hdb : ∀ k ∈ ks, k ∉ bs) (hS : SCallF G P f fs A r A')
    (hok : okI r = true) (hkr : (!keep || noTr r) = true) (hi : impA keep σ.L (σ.L.length + (imp σ.L.length r).2.length) ms uxs A' = some (sets, pushes)) (hsub : ∀ s ∈ sets, s.1 ∈ ks)
    (hK : fin o σ (imp σ.L.length r).1 (setL (clearL (if keep = true then σ.L else frzL σ.L bs) ks) sets ++ ((imp σ.L.length r).2 ++ pushes).map some) K) : IP P fx o K σ := by
  intro cx a w next QQ hs hn
  have hvx := evs_sound hs.s hx
  have hfv := ev_sound hs.s hfo
  unfold VX at hfv
  obtain ⟨arr, hfv, hcaps⟩ := hfv
  have hall : VXl cx w (xs ++ caps) (c.args.toList.map a.eval ++ arr.toList) := by
    refine VXl.of_get (by simp [← hvx.length, ← hcaps.length]) fun i x y h1 h2 => ?_
    rw [List.getElem?_append] at h1 h2
    have := hvx.length
    split at h1
    · rename_i hi
      rw [if_pos (by omega)] at h2
      obtain ⟨y', g1, g2⟩ := hvx.get i x h1
      rw [g1] at h2; cases h2; exact g2
    · rename_i hi
      rw [if_neg (by omega), this] at h2
      obtain ⟨y', g1, g2⟩ := hcaps.get _ x h1
      rw [g1] at h2; cases h2; exact g2
  rw [← hpk] at hall
  obtain ⟨us, hall, hus⟩ := pk_inv hall
  obtain ⟨os, hBR, hcov⟩ := exA_sound hs.m htt hA hall
  obtain ⟨fn, e1, e2, e3⟩ := hen
  have hrun : (execOp a.eval o).run P w = .ok (.enter f (packV fs us).toArray) w := by
    rw [← hus]
    simp only [beq_eq_false_iff_ne, ne_eq, Option.isNone_eq_false_iff] at e2 e3
    simp [execOp, ho, resolve, hc, hfv, Deferred.ofValue, invoke, callFunc, e1, e2, Option.isSome_iff_ne_none.1 e3]
  unfold Oper.wp
  rw [hrun, Oper.upon_enter]
  have hRlt : ∀ b, (cx.R b ∨ Bor cx σ bs b) → b < w.heap.size := by
    rintro b (h | ⟨k, bl, p, _, g2, _, g4⟩)
    · exact hs.m.rlt b h
    · exact hs.m.lt g2 _ g4 b 0 rfl
  have hRos : ∀ b o, (cx.R b ∨ Bor cx σ bs b) → ¬ Owns os b o := by
    rintro b o h ⟨z, hz, hh⟩
    obtain ⟨k, bl, p, g1, g2, g3, g4⟩ := hcov.mem z hz
    rcases h with h | ⟨k', bl', p', d1, d2, _, d4⟩
    · exact (hs.m.nor k bl p g2 z g4 b o hh).1 g3 h
    · exact hs.m.dis k k' bl bl' p p' g2 d2 (fun e => hdb k g1 (e ▸ d1)) z g4 _ d4 b o hh rfl
  refine (hS w _ _ os hBR (hcov.disj hs.m hnd) hRlt hRos (GOk.mono (fun b h => .inl h) (fun b hb => rfl) (hgf.at hs.m))).mono ?_
  rintro e w' ⟨v, R', o1, o2, rfl, r1, r2, r3, r4, r5, r6, r7, r8⟩
  show next (a.put o.dst v) w'
  have hblk := exA_blk (P := P) hA hi hBR r2
  let R2 : Nat → Prop := fun b => if keep = true then cx.R b else R' b
  have hup : ∀ a y os, (!keep || noTr a) = true → BR P R' w' a y os → BR P R2 w' a y os := fun a y os hk hb => by
    cases keep with
    | true => exact BR.noTr _ _ _ (by simpa using hk) hb
    | false => simpa [R2] using hb
  obtain ⟨rps, i1, i2, i3⟩ := imp_sound r v o1 σ.L.length hok (hup r v o1 hkr r1)
  have hsets := impA_sound hs.m hup hi hall r2
  obtain ⟨cx', c1, c2, c3, c4⟩ := hs.m.after hcov hdb r8 (R2 := R2) (keep := keep) r4 r5 r6 r7 r3 hblk rfl i1 i2 i3 hsets hsub (exA_rows hA) { σ with L := setL (clearL (if keep = true then σ.L else frzL σ.L bs) ks) sets ++ ((imp σ.L.length r).2 ++ pushes).map some } rfl
  have hRe : HeapEq cx.R w w' := fun bb hb => r8.hblk bb (hs.m.rlt bb hb) fun o ho => hRos bb o (.inl hb) ho
  unfold fin at hK
  split at hK
  · rename_i d hd
    rw [hd]
    have ht := (hs.s.mono (σ' := { σ with L := setL (clearL (if keep = true then σ.L else frzL σ.L bs) ks) sets ++ ((imp σ.L.length r).2 ++ pushes).map some }) (fun _ _ h => h) rfl c1 hRe).put d hK.1 _ v c4
    exact hn _ cx' _ _ hK.2 ⟨c3.sameL rfl, ht⟩
  · rename_i hd
    rw [hd]
    exact hn _ cx' _ _ hK ⟨c3, hs.s.mono (fun _ _ h => h) rfl c1 hRe⟩
theorem IL.callF (hgf : GFx G fx) (htt : TTok P TT) {ops : Array Oper} {o : Oper} {l : List Oper} {c : Call} {fo : Operand} {f : FuncId} {fs : List (Option (FuncId × Nat))} {caps xs uxs A A' : List IV} {r : IV} {σ σ' : St} {K : St → Prop} (ms : List Md) {bs ks : List Nat} (keep : Bool) {sets : List (Nat × Blk)} {pushes : List Blk}
    (hg : Gok ops σ o) (ho : o.op = .call c) (hc : c.callee = .value fo) (hfo : ev σ fo = some (.fn (.func f) caps)) (hen : Ent P f) (hx : evs σ c.args.toList = some xs) (hpk : packIV fs uxs = xs ++ caps) (hA : exA σ.L TT ms uxs = some (A, bs, ks)) (hnd : ks.Nodup) (hdb : ∀ k ∈ ks, k ∉ bs) (hS : SCallF G P f fs A r A')
    (hok : okI r = true) (hkr : (!keep || noTr r) = true) (hi : impA keep σ.L (σ.L.length + (imp σ.L.length r).2.length) ms uxs A' = some (sets, pushes)) (hsub : ∀ s ∈ sets, s.1 ∈ ks)
    (hK : ∀ K : St → Prop, K σ' → fin o σ (imp σ.L.length r).1 (setL (clearL (if keep = true then σ.L else frzL σ.L bs) ks) sets ++ ((imp σ.L.length r).2 ++ pushes).map some) K) (hr : IL P fx ops l K σ') : IL P fx ops (o :: l) K σ :=
  IL.ok hg (IP.callF hgf htt ms keep ho hc hfo hen hx hpk hA hnd hdb hS hok hkr hi hsub (hK _ hr))
theorem IL.callSF (fs : List (Option (FuncId × Nat))) (hgf : GFx G fx) (htt : TTok P TT) {f : FuncId} (hen : Ent P f) (ms : List Md) (keep : Bool) {ops : Array Oper} {xs A A' : List IV} {rr : IV} {σ σ' : St} {bs ks : List Nat} {sets : List (Nat × Blk)} {pushes : List Blk}
    (hg : Gok ops σ o) (hc : isCall σ o = some (f, xs)) (hpk : packIV fs (unpk fs xs) = xs) (hA : exA σ.L TT ms (unpk fs xs) = some (A, bs, ks)) (hS : SCallF G P f fs A rr A') (hnd : nodupB ks bs = true) (hok : okI rr = true) (hkr : (!keep || noTr rr) = true)
    (hi : impA keep σ.L (σ.L.length + (imp σ.L.length rr).2.length) ms (unpk fs xs) A' = some (sets, pushes)) (hsub : ∀ s ∈ sets, s.1 ∈ ks)
    (hK : ∀ K : St → Prop, K σ' → fin o σ (imp σ.L.length rr).1 (setL (clearL (if keep = true then σ.L else frzL σ.L bs) ks) sets ++ ((imp σ.L.length rr).2 ++ pushes).map some) K) (hr : IL P fx ops r K σ') : IL P fx ops (o :: r) K σ := by
  obtain ⟨c, fo, caps, xs', h1, h2, h3, h4, rfl⟩ := isCall_inv hc
  exact IL.callF hgf htt ms keep hg h1 h2 h3 hen h4 hpk hA (nodupB_spec hnd).1 (nodupB_spec hnd).2 hS hok hkr hi hsub hK hr

section
variable {ops : List Oper} {X B lo hi : List Nat} {T T' : List (Nat × IV)} {L L' : List (Option Blk)} {Ls : List (List (Option Blk))}
theorem DW.callF (hgf : GFx G fx) (htt : TTok P TT) {c : Call} {fo : Operand} {f : FuncId} {fs : List (Option (FuncId × Nat))} {caps xs uxs A A' : List IV} {rr : IV} (ms : List Md) {bs ks : List Nat} (keep : Bool) {sets : List (Nat × Blk)} {pushes : List Blk}
    (hb : B.contains i = true) (hg : Gok ops.toArray ⟨N, T, L⟩ o) (ho : o.op = .call c) (hc : c.callee = .value fo) (hfo : ev ⟨N, T, L⟩ fo = some (.fn (.func f) caps)) (hen : Ent P f) (hx : evs ⟨N, T, L⟩ c.args.toList = some xs) (hpk : packIV fs uxs = xs ++ caps) (hA : exA L TT ms uxs = some (A, bs, ks)) (hnd : ks.Nodup) (hdb : ∀ k ∈ ks, k ∉ bs) (hS : SCallF G P f fs A rr A')
    (hok : okI rr = true) (hkr : (!keep || noTr rr) = true) (hi' : impA keep L (L.length + (imp L.length rr).2.length) ms uxs A' = some (sets, pushes)) (hsub : ∀ s ∈ sets, s.1 ∈ ks)
    (hK : ∀ K : St → Prop, K ⟨N, T', L'⟩ → fin o ⟨N, T, L⟩ (imp L.length rr).1 (setL (clearL (if keep = true then L else frzL L bs) ks) sets ++ ((imp L.length rr).2 ++ pushes).map some) K)
    (hp : putOk o.dst T T') (hs : strad lo hi ops.length Ls.length = false ∨ LEX X L L') (hrest : DW P fx ops X B lo hi (i + 1) r N T' (L' :: L :: Ls) K) : DW P fx ops X B lo hi i (o :: r) N T (L :: Ls) K := by
  obtain ⟨v, hp⟩ := hp.ex
  refine ⟨T, v, T', fun _ => rfl, hp, ?_⟩
  rw [if_pos hb]
  refine ⟨L', fun T2 ha T3 hp2 => ?_, hs, hrest⟩
  have hk := kn_of_slots (N := N) (L := L) (L2 := L) ha
  rw [ho] at hk
  simp only [opds, hc] at hk
  have hfm := fin_move (L2' := L') (L2 := L) hp hp2 (hK (fun σ1 => σ1 = ⟨N, T', L'⟩) rfl) (fun _ => rfl)
  refine IG.ok (hg.slots ha) (IP.callF hgf htt ms keep ho hc (hk fo (by simp) _ hfo) hen (evs_kn (fun x hx => hk x (by simp at hx ⊢; exact .inr hx)) hx) hpk hA hnd hdb hS hok hkr hi' hsub ?_)
  have e := hfm.2
  subst e
  exact hfm.1

end
theorem DW.callSF (fs : List (Option (FuncId × Nat))) (hgf : GFx G fx) (htt : TTok P TT) {f : FuncId} (hen : Ent P f) (ms : List Md) (keep : Bool) {ops : List Oper} {X B lo hi : List Nat} {T T' : List (Nat × IV)} {L L' : List (Option Blk)} {Ls : List (List (Option Blk))} {xs A A' : List IV} {rr : IV} {bs ks : List Nat} {sets : List (Nat × Blk)} {pushes : List Blk}
    (hb : B.contains i = true) (hg : Gok ops.toArray ⟨N, T, L⟩ o) (hc : isCall ⟨N, T, L⟩ o = some (f, xs)) (hpk : packIV fs (unpk fs xs) = xs) (hA : exA L TT ms (unpk fs xs) = some (A, bs, ks)) (hS : SCallF G P f fs A rr A') (hnd : nodupB ks bs = true) (hok : okI rr = true) (hkr : (!keep || noTr rr) = true)
    (hi' : impA keep L (L.length + (imp L.length rr).2.length) ms (unpk fs xs) A' = some (sets, pushes)) (hsub : ∀ s ∈ sets, s.1 ∈ ks)
    (hK : ∀ K : St → Prop, K ⟨N, T', L'⟩ → fin o ⟨N, T, L⟩ (imp L.length rr).1 (setL (clearL (if keep = true then L else frzL L bs) ks) sets ++ ((imp L.length rr).2 ++ pushes).map some) K)
    (hp : putOk o.dst T T') (hs : strad lo hi ops.length Ls.length = false ∨ LEX X L L') (hrest : DW P fx ops X B lo hi (i + 1) r N T' (L' :: L :: Ls) K) : DW P fx ops X B lo hi i (o :: r) N T (L :: Ls) K := by
  obtain ⟨c, fo, caps, xs', h1, h2, h3, h4, rfl⟩ := isCall_inv hc
  exact DW.callF hgf htt ms keep hb hg h1 h2 h3 hen h4 hpk hA (nodupB_spec hnd).1 (nodupB_spec hnd).2 hS hok hkr hi' hsub hK hp hs hrest
theorem IP.mkfn {o : Oper} {fn : Fn} {cs : Array Operand} {vs : List IV} {σ : St} {K : St → Prop} (ho : o.op = .makeFunc fn #[] cs) (hv : evs σ cs.toList = some vs) (h2 : fin o σ (.fn fn vs) σ.L K) : IP P fx o K σ := by
  intro cx a w next QQ hs hn
  have hvx := evs_sound hs.s hv
  refine pure_sound hs (y := .func fn #[] (cs.map a.eval)) (by simp [execOp, ho, Instr.makeFunc]) (by unfold VX; exact ⟨_, rfl, by simpa using hvx⟩) h2 fun σ1 cx' a' w' hk _ hs' => hn σ1 cx' a' w' hk hs'
theorem IL.mkfn {ops : Array Oper} {o : Oper} {r : List Oper} {fn : Fn} {cs : Array Operand} {vs : List IV} {σ σ' : St} {K : St → Prop} (hg : Gok ops σ o) (ho : o.op = .makeFunc fn #[] cs) (hv : evs σ cs.toList = some vs)
    (hK : ∀ K : St → Prop, K σ' → fin o σ (.fn fn vs) σ.L K) (hr : IL P fx ops r K σ') : IL P fx ops (o :: r) K σ := IL.ok hg (IP.mkfn ho hv (hK _ hr))
end
attribute [go_sem] packIV packV pk unpk List.take_succ_cons List.drop_succ_cons List.take_zero List.drop_zero
end Go.Lift
/- Short forms of the rules: what a rule asks for besides its next step is done by itself. -/
namespace Go.Lift
open Go Go.RowKit

theorem cG {p : Prop} (h : p := by first | exact .inl rfl | (refine Gok.mk2 (b := ?_) rfl ?_ ?_; rotate_left 1; (focus rfl); (focus (with_reducible rfl)))) : p := h
theorem cW {p : Prop} (h : p := by first | exact wrap_i64 (by omega) (by omega) | exact wrap_u64 (by omega) (by omega) | exact wrap_u32 (by omega) (by omega) | exact wrap_u16 (by omega) (by omega) | exact wrap_u8 (by omega) (by omega)) : p := h
theorem cO {p : Prop} (h : p := by first | omega | assumption | decide | simp) : p := h
theorem cK {p q : Prop} (hK : q) (h : p := by first | exact hK | (and_intros <;> first | exact hK | omega | assumption | rfl | decide)) : p := h
theorem cA {p : Prop} (h : p := by first | (simp only [go_sem, reduceIte] <;> (try and_intros) <;> first | rfl | omega | grind)) : p := h
theorem hsA : (∀ a b : Bool, ((a && b) = true) = (a = true ∧ b = true)) ∧ (∀ a b : Bool, ((a && b) = false) = (a = false ∨ b = false)) ∧ (∀ a b : Bool, ((a || b) = true) = (a = true ∨ b = true)) ∧ (∀ a b : Bool, ((a || b) = false) = (a = false ∧ b = false)) ∧
    (∀ a : Bool, ((!a) = true) = (a = false)) ∧ (∀ a : Bool, ((!a) = false) = (a = true)) := by
  refine ⟨?_, ?_, ?_, ?_, ?_, ?_⟩ <;> simp
theorem hsD {p : Prop} [Decidable p] : ((decide p = true) = p) ∧ ((decide p = false) = ¬ p) ∧ ((¬ ¬ p) ↔ p) := by simp
theorem hsE {α : Type} [BEq α] [LawfulBEq α] {a b : α} : ((a == b) = true ↔ a = b) ∧ ((a == b) = false ↔ ¬ a = b) ∧ ((a != b) = true ↔ ¬ a = b) ∧ ((a != b) = false ↔ a = b) := by simp
section
variable {P : Program} {TT : TTab} {fx : Fx} {G : List (Nat × List IV)}
section
variable {ops : Array Oper} {o : Oper} {l : List Oper} {σ σ' : St} {K : St → Prop}
theorem IL.sg (htt : TTok P TT) (hr : IL P fx ops l K σ') (hg : Gok ops σ o := by exact cG) (h : ∀ K : St → Prop, K σ' → stepOp TT o σ K := by intro K hK; simp only [go_sem, reduceIte]; first | exact hK | (and_intros <;> first | exact hK | omega | assumption | rfl | decide)) : IL P fx ops (o :: l) K σ := IL.stepg htt hg h hr
theorem IL.nn (hr : IL P fx ops l K σ') (hg : Gno ops σ o := by first | (refine Gno.mkT (b := ?_) rfl ?_ ?_; rotate_left 1; (focus rfl); (focus (with_reducible rfl))) | (refine Gno.mkF (b := ?_) rfl ?_ ?_; rotate_left 1; (focus rfl); (focus (with_reducible rfl))) | exact Gno.mkU rfl rfl)
    (h : ∀ K : St → Prop, K σ' → skipOp o σ K := by intro K hK; simp only [go_sem, reduceIte]; exact hK) : IL P fx ops (o :: l) K σ := IL.no hg h hr
theorem IL.cS (htt : TTok P TT) {f : FuncId} (hen : Ent P f) (ms : List Md) (keep : Bool) {xs A A' : List IV} {rr : IV} {bs ks : List Nat} {sets : List (Nat × Blk)} {pushes : List Blk} (hr : IL P fx ops l K σ')
    (hg : Gok ops σ o := by exact cG) (hc : isCall σ o = some (f, xs) := by rfl) (hA : exA σ.L TT ms xs = some (A, bs, ks) := by first | rfl | (simp only [go_sem, reduceIte] <;> rfl)) (hS : SCall P f A rr A') (hnd : nodupB ks bs = true := by rfl) (hok : okI rr = true := by rfl) (hkr : (!keep || noTr rr) = true := by first | rfl | (simp only [go_sem]; done))
    (hi : impA keep σ.L (σ.L.length + (imp σ.L.length rr).2.length) ms xs A' = some (sets, pushes) := by first | rfl | (simp only [go_sem, reduceIte] <;> rfl)) (hsub : ∀ s ∈ sets, s.1 ∈ ks := by (simp; done))
    (hK : ∀ K : St → Prop, K σ' → fin o σ (imp σ.L.length rr).1 (setL (clearL (if keep = true then σ.L else frzL σ.L bs) ks) sets ++ ((imp σ.L.length rr).2 ++ pushes).map some) K := by intro K hK; simp only [go_sem, reduceIte]; first | exact hK | (and_intros <;> first | exact hK | omega | assumption | rfl | decide)) : IL P fx ops (o :: l) K σ :=
  IL.callS htt hen ms keep hg hc hA hS hnd hok hkr hi hsub hK hr
end
section
variable {opa : Array Oper} {o : Oper} {r : List Oper} {N : Nat} {T : List (Nat × IV)} {L : List (Option Blk)} {K : St → Prop} {b : Bool} {d : Nat}
theorem IL.ag (h1 : b = true → IL P fx opa (o :: r) K ⟨N, (d, .v (.bool true)) :: T, L⟩) (h2 : b = false → IL P fx opa (o :: r) K ⟨N, (d, .v (.bool false)) :: T, L⟩) (hd : gslot opa o = some d := by rfl) (h : lk T d = some (.v (.bool b)) := by rfl) : IL P fx opa (o :: r) K ⟨N, T, L⟩ := IL.askg hd h h1 h2
theorem IL.ap (h1 : b = true → IL P fx opa (o :: r) K ⟨N, (d, .v (.bool true)) :: T, L⟩) (h2 : b = false → IL P fx opa (o :: r) K ⟨N, (d, .v (.bool false)) :: T, L⟩) (hd : pslot o = some d := by rfl) (h : lk T d = some (.v (.bool b)) := by rfl) : IL P fx opa (o :: r) K ⟨N, T, L⟩ := IL.askp hd h h1 h2
end
section
variable {ops : List Oper} {X B lo hi : List Nat} {i N : Nat} {o : Oper} {r : List Oper} {T T' : List (Nat × IV)} {Ls : List (List (Option Blk))} {K : St → Prop} {L L' : List (Option Blk)}
theorem DW.ag {b : Bool} {d : Nat} (h1 : b = true → DW P fx ops X B lo hi i (o :: r) N ((d, .v (.bool true)) :: T) Ls K) (h2 : b = false → DW P fx ops X B lo hi i (o :: r) N ((d, .v (.bool false)) :: T) Ls K) (hd : gslot ops.toArray o = some d := by rfl) (h : lk T d = some (.v (.bool b)) := by rfl) : DW P fx ops X B lo hi i (o :: r) N T Ls K := DW.askg hd h h1 h2
theorem DW.ap {b : Bool} {d : Nat} (h1 : b = true → DW P fx ops X B lo hi i (o :: r) N ((d, .v (.bool true)) :: T) Ls K) (h2 : b = false → DW P fx ops X B lo hi i (o :: r) N ((d, .v (.bool false)) :: T) Ls K) (hd : pslot o = some d := by rfl) (h : lk T d = some (.v (.bool b)) := by rfl) : DW P fx ops X B lo hi i (o :: r) N T Ls K := DW.askp hd h h1 h2
theorem DW.re (htt : TTok P TT) (hrest : DW P fx ops X B lo hi (i + 1) r N T' Ls K) (hb : B.contains i = false := by rfl) (hr : isRd o.op = true := by rfl) (hlh : lo.getD i 0 = hi.getD i 0 := by decide) (hL : Ls[Ls.length - 1 - lo.getD i 0]? = some L := by rfl) (hg : Gok ops.toArray ⟨N, T, L⟩ o := by exact cG)
    (h : ∀ K : St → Prop, K ⟨N, T', L⟩ → stepOp TT o ⟨N, T, L⟩ K := by intro K hK; simp only [go_sem, reduceIte]; first | exact hK | (and_intros <;> first | exact hK | omega | assumption | rfl | decide)) (hp : putOk o.dst T T' := by first | exact ⟨_, rfl⟩ | rfl) : DW P fx ops X B lo hi i (o :: r) N T Ls K := DW.rd htt hb hr hlh hL hg h hp hrest
theorem DW.rm (htt : TTok P TT) (hrest : DW P fx ops X B lo hi (i + 1) r N T' Ls K) (hb : B.contains i = false := by rfl) (hr : isRd o.op = true := by rfl) (hL : (Ls[Ls.length - 1 - lo.getD i 0]?).map (maskL X 0) = some L := by rfl) (hg : Gok ops.toArray ⟨N, T, L⟩ o := by exact cG)
    (h : ∀ K : St → Prop, K ⟨N, T', L⟩ → stepOp TT o ⟨N, T, L⟩ K := by intro K hK; simp only [go_sem, reduceIte]; first | exact hK | (and_intros <;> first | exact hK | omega | assumption | rfl | decide)) (hp : putOk o.dst T T' := by first | exact ⟨_, rfl⟩ | rfl) : DW P fx ops X B lo hi i (o :: r) N T Ls K := DW.rdm htt hb hr hL hg h hp hrest
theorem DW.bk (htt : TTok P TT) (hrest : DW P fx ops X B lo hi (i + 1) r N T' (L' :: L :: Ls) K) (hb : B.contains i = true := by rfl) (hg : Gok ops.toArray ⟨N, T, L⟩ o := by exact cG)
    (h : ∀ K : St → Prop, K ⟨N, T', L'⟩ → stepOp TT o ⟨N, T, L⟩ K := by intro K hK; simp only [go_sem, reduceIte]; first | exact hK | (and_intros <;> first | exact hK | omega | assumption | rfl | decide)) (hp : putOk o.dst T T' := by first | exact ⟨_, rfl⟩ | rfl)
    (hs : strad lo hi ops.length Ls.length = false ∨ LEX X L L' := by first | exact .inl rfl | exact .inr (LEX.refl _ _) | exact .inr (LE.app _ _).lex | exact .inr (LEX.of (by simp only [go_sem, List.contains_cons, List.contains_nil, Nat.reduceBEq, Bool.or_false, Bool.false_or, Nat.reduceAdd, true_or, false_or, true_and]; first | done | trivial | (and_intros <;> first | exact ⟨_, rfl⟩ | trivial)))) : DW P fx ops X B lo hi i (o :: r) N T (L :: Ls) K := DW.bl htt hb hg h hp hs hrest
theorem DW.nn (hrest : DW P fx ops X B lo hi (i + 1) r N T' Ls K) (hL : Ls[Ls.length - 1 - lo.getD i 0]? = some L := by rfl) (hb : B.contains i = false := by rfl) (hg : Gno ops.toArray ⟨N, T, L⟩ o := by first | (refine Gno.mkT (b := ?_) rfl ?_ ?_; rotate_left 1; (focus rfl); (focus (with_reducible rfl))) | (refine Gno.mkF (b := ?_) rfl ?_ ?_; rotate_left 1; (focus rfl); (focus (with_reducible rfl))) | exact Gno.mkU rfl rfl)
    (h : ∀ K : St → Prop, K ⟨N, T', L⟩ → skipOp o ⟨N, T, L⟩ K := by intro K hK; simp only [go_sem, reduceIte]; exact hK) (hp : putOk o.dst T T' := by first | exact ⟨_, rfl⟩ | rfl) : DW P fx ops X B lo hi i (o :: r) N T Ls K := DW.no hL hb hg h hp hrest
theorem DW.nb (hrest : DW P fx ops X B lo hi (i + 1) r N T' (L :: L :: Ls) K) (hb : B.contains i = true := by rfl) (hg : Gno ops.toArray ⟨N, T, L⟩ o := by first | (refine Gno.mkT (b := ?_) rfl ?_ ?_; rotate_left 1; (focus rfl); (focus (with_reducible rfl))) | (refine Gno.mkF (b := ?_) rfl ?_ ?_; rotate_left 1; (focus rfl); (focus (with_reducible rfl))) | exact Gno.mkU rfl rfl)
    (h : ∀ K : St → Prop, K ⟨N, T', L⟩ → skipOp o ⟨N, T, L⟩ K := by intro K hK; simp only [go_sem, reduceIte]; exact hK) (hp : putOk o.dst T T' := by first | exact ⟨_, rfl⟩ | rfl) : DW P fx ops X B lo hi i (o :: r) N T (L :: Ls) K := DW.nob hb hg h hp hrest
theorem DW.cS (htt : TTok P TT) {f : FuncId} (hen : Ent P f) (ms : List Md) (keep : Bool) {xs A A' : List IV} {rr : IV} {bs ks : List Nat} {sets : List (Nat × Blk)} {pushes : List Blk} (hrest : DW P fx ops X B lo hi (i + 1) r N T' (L' :: L :: Ls) K)
    (hb : B.contains i = true := by rfl) (hg : Gok ops.toArray ⟨N, T, L⟩ o := by exact cG) (hc : isCall ⟨N, T, L⟩ o = some (f, xs) := by rfl) (hA : exA L TT ms xs = some (A, bs, ks) := by first | rfl | (simp only [go_sem, reduceIte] <;> rfl)) (hS : SCall P f A rr A') (hnd : nodupB ks bs = true := by rfl) (hok : okI rr = true := by rfl) (hkr : (!keep || noTr rr) = true := by first | rfl | (simp only [go_sem]; done))
    (hi' : impA keep L (L.length + (imp L.length rr).2.length) ms xs A' = some (sets, pushes) := by first | rfl | (simp only [go_sem, reduceIte] <;> rfl)) (hsub : ∀ s ∈ sets, s.1 ∈ ks := by (simp; done))
    (hK : ∀ K : St → Prop, K ⟨N, T', L'⟩ → fin o ⟨N, T, L⟩ (imp L.length rr).1 (setL (clearL (if keep = true then L else frzL L bs) ks) sets ++ ((imp L.length rr).2 ++ pushes).map some) K := by intro K hK; simp only [go_sem, reduceIte]; first | exact hK | (and_intros <;> first | exact hK | omega | assumption | rfl | decide))
    (hp : putOk o.dst T T' := by first | exact ⟨_, rfl⟩ | rfl)
    (hs : strad lo hi ops.length Ls.length = false ∨ LEX X L L' := by first | exact .inl rfl | exact .inr (LEX.refl _ _) | exact .inr (LE.app _ _).lex | exact .inr (LEX.of (by simp only [go_sem, List.contains_cons, List.contains_nil, Nat.reduceBEq, Bool.or_false, Bool.false_or, Nat.reduceAdd, true_or, false_or, true_and]; first | done | trivial | (and_intros <;> first | exact ⟨_, rfl⟩ | trivial)))) : DW P fx ops X B lo hi i (o :: r) N T (L :: Ls) K :=
  DW.callS htt hen ms keep hb hg hc hA hS hnd hok hkr hi' hsub hK hp hs hrest
end
section
variable {c : Operand} {x y : Code} {N : St → Prop} {Q : Exit → St → Prop} {σ : St} {b : Bool}
theorem Fin.o {fn : Func} {kp : Nat → Bool} {gs : List Bool} {A A' A2 : List IV} {q q' : IV} {k1 k2 : List Nat} (h4 : q' = q) (h5 : A2 = A') (h1 : resX fn TT σ = some (q', k1) := by first | rfl | (simp only [go_sem, reduceIte] <;> rfl)) (h2 : outA kp σ.L gs (impl 0 A).1 A = some (A2, k2) := by first | rfl | (simp only [go_sem, reduceIte] <;> rfl)) (h3 : nodupB (k1 ++ k2) [] = true := by rfl) : Fin fn TT kp gs A q A' σ := Fin.of h1 h2 h3 h4 h5
theorem WK.e1 {id id' : Nat} {N' N2 : St → Prop} (h : N σ) (hne : id ≠ id' := by decide) : WK P fx (.exit id) N' (exQ id' N2 (exQ id N Q)) σ := WK.exit_out1 hne h
theorem WK.e2 {id i1 i2 : Nat} {N' N2 N3 : St → Prop} (h : N σ) (h1 : id ≠ i1 := by decide) (h2 : id ≠ i2 := by decide) : WK P fx (.exit id) N' (exQ i1 N2 (exQ i2 N3 (exQ id N Q))) σ := WK.exit_out2 h1 h2 h
theorem WK.cn (h1 : b = true → WK P fx x N Q σ) (h2 : b = false → WK P fx y N Q σ) (hb : ev σ c = some (.v (.bool b)) := by rfl) : WK P fx (.cond c x y) N Q σ := WK.cond hb h1 h2
end
end
end Go.Lift
/- The short forms again, for walks with facts: what is known stands in a hypothesis named FX. -/
namespace Go.Lift
open Go Go.RowKit

section
variable {P : Program} {TT : TTab} {fx : Fx} {G : List (Nat × List IV)}
section
variable {ops : Array Oper} {o : Oper} {l : List Oper} {σ σ' : St} {K : St → Prop}
theorem IL.sgF (htt : TTok P TT) (hr : IL P fx ops l K σ') (hg : Gok ops σ o := by exact cG) (h : ∀ K : St → Prop, K σ' → stepOp TT o σ K := by intro K hK; simp only [go_sem, reduceIte, FX]; first | exact hK | (and_intros <;> first | exact hK | omega | assumption | rfl | decide)) : IL P fx ops (o :: l) K σ := IL.stepg htt hg h hr
theorem IL.cSF (htt : TTok P TT) {f : FuncId} (hen : Ent P f) (ms : List Md) (keep : Bool) {xs A A' : List IV} {rr : IV} {bs ks : List Nat} {sets : List (Nat × Blk)} {pushes : List Blk} (hr : IL P fx ops l K σ')
    (hg : Gok ops σ o := by exact cG) (hc : isCall σ o = some (f, xs) := by rfl) (hA : exA σ.L TT ms xs = some (A, bs, ks) := by first | rfl | (simp only [go_sem, reduceIte, FX] <;> rfl)) (hS : SCall P f A rr A') (hnd : nodupB ks bs = true := by rfl) (hok : okI rr = true := by rfl) (hkr : (!keep || noTr rr) = true := by first | rfl | (simp only [go_sem]; done))
    (hi : impA keep σ.L (σ.L.length + (imp σ.L.length rr).2.length) ms xs A' = some (sets, pushes) := by first | rfl | (simp only [go_sem, reduceIte, FX] <;> rfl)) (hsub : ∀ s ∈ sets, s.1 ∈ ks := by (simp; done))
    (hK : ∀ K : St → Prop, K σ' → fin o σ (imp σ.L.length rr).1 (setL (clearL (if keep = true then σ.L else frzL σ.L bs) ks) sets ++ ((imp σ.L.length rr).2 ++ pushes).map some) K := by intro K hK; simp only [go_sem, reduceIte, FX]; first | exact hK | (and_intros <;> first | exact hK | omega | assumption | rfl | decide)) : IL P fx ops (o :: l) K σ :=
  IL.callS htt hen ms keep hg hc hA hS hnd hok hkr hi hsub hK hr
end
section
variable {ops : List Oper} {X B lo hi : List Nat} {i N : Nat} {o : Oper} {r : List Oper} {T T' : List (Nat × IV)} {Ls : List (List (Option Blk))} {K : St → Prop} {L L' : List (Option Blk)}
theorem DW.reF (htt : TTok P TT) (hrest : DW P fx ops X B lo hi (i + 1) r N T' Ls K) (hb : B.contains i = false := by rfl) (hr : isRd o.op = true := by rfl) (hlh : lo.getD i 0 = hi.getD i 0 := by decide) (hL : Ls[Ls.length - 1 - lo.getD i 0]? = some L := by rfl) (hg : Gok ops.toArray ⟨N, T, L⟩ o := by exact cG)
    (h : ∀ K : St → Prop, K ⟨N, T', L⟩ → stepOp TT o ⟨N, T, L⟩ K := by intro K hK; simp only [go_sem, reduceIte, FX]; first | exact hK | (and_intros <;> first | exact hK | omega | assumption | rfl | decide)) (hp : putOk o.dst T T' := by first | exact ⟨_, rfl⟩ | rfl) : DW P fx ops X B lo hi i (o :: r) N T Ls K := DW.rd htt hb hr hlh hL hg h hp hrest
theorem DW.rmF (htt : TTok P TT) (hrest : DW P fx ops X B lo hi (i + 1) r N T' Ls K) (hb : B.contains i = false := by rfl) (hr : isRd o.op = true := by rfl) (hL : (Ls[Ls.length - 1 - lo.getD i 0]?).map (maskL X 0) = some L := by rfl) (hg : Gok ops.toArray ⟨N, T, L⟩ o := by exact cG)
    (h : ∀ K : St → Prop, K ⟨N, T', L⟩ → stepOp TT o ⟨N, T, L⟩ K := by intro K hK; simp only [go_sem, reduceIte, FX]; first | exact hK | (and_intros <;> first | exact hK | omega | assumption | rfl | decide)) (hp : putOk o.dst T T' := by first | exact ⟨_, rfl⟩ | rfl) : DW P fx ops X B lo hi i (o :: r) N T Ls K := DW.rdm htt hb hr hL hg h hp hrest
theorem DW.bkF (htt : TTok P TT) (hrest : DW P fx ops X B lo hi (i + 1) r N T' (L' :: L :: Ls) K) (hb : B.contains i = true := by rfl) (hg : Gok ops.toArray ⟨N, T, L⟩ o := by exact cG)
    (h : ∀ K : St → Prop, K ⟨N, T', L'⟩ → stepOp TT o ⟨N, T, L⟩ K := by intro K hK; simp only [go_sem, reduceIte, FX]; first | exact hK | (and_intros <;> first | exact hK | omega | assumption | rfl | decide)) (hp : putOk o.dst T T' := by first | exact ⟨_, rfl⟩ | rfl)
    (hs : strad lo hi ops.length Ls.length = false ∨ LEX X L L' := by first | exact .inl rfl | exact .inr (LEX.refl _ _) | exact .inr (LE.app _ _).lex | exact .inr (LEX.of (by simp only [go_sem, List.contains_cons, List.contains_nil, Nat.reduceBEq, Bool.or_false, Bool.false_or, Nat.reduceAdd, true_or, false_or, true_and]; first | done | trivial | (and_intros <;> first | exact ⟨_, rfl⟩ | trivial)))) : DW P fx ops X B lo hi i (o :: r) N T (L :: Ls) K := DW.bl htt hb hg h hp hs hrest
theorem DW.cSF (htt : TTok P TT) {f : FuncId} (hen : Ent P f) (ms : List Md) (keep : Bool) {xs A A' : List IV} {rr : IV} {bs ks : List Nat} {sets : List (Nat × Blk)} {pushes : List Blk} (hrest : DW P fx ops X B lo hi (i + 1) r N T' (L' :: L :: Ls) K)
    (hb : B.contains i = true := by rfl) (hg : Gok ops.toArray ⟨N, T, L⟩ o := by exact cG) (hc : isCall ⟨N, T, L⟩ o = some (f, xs) := by rfl) (hA : exA L TT ms xs = some (A, bs, ks) := by first | rfl | (simp only [go_sem, reduceIte, FX] <;> rfl)) (hS : SCall P f A rr A') (hnd : nodupB ks bs = true := by rfl) (hok : okI rr = true := by rfl) (hkr : (!keep || noTr rr) = true := by first | rfl | (simp only [go_sem]; done))
    (hi' : impA keep L (L.length + (imp L.length rr).2.length) ms xs A' = some (sets, pushes) := by first | rfl | (simp only [go_sem, reduceIte, FX] <;> rfl)) (hsub : ∀ s ∈ sets, s.1 ∈ ks := by (simp; done))
    (hK : ∀ K : St → Prop, K ⟨N, T', L'⟩ → fin o ⟨N, T, L⟩ (imp L.length rr).1 (setL (clearL (if keep = true then L else frzL L bs) ks) sets ++ ((imp L.length rr).2 ++ pushes).map some) K := by intro K hK; simp only [go_sem, reduceIte, FX]; first | exact hK | (and_intros <;> first | exact hK | omega | assumption | rfl | decide))
    (hp : putOk o.dst T T' := by first | exact ⟨_, rfl⟩ | rfl)
    (hs : strad lo hi ops.length Ls.length = false ∨ LEX X L L' := by first | exact .inl rfl | exact .inr (LEX.refl _ _) | exact .inr (LE.app _ _).lex | exact .inr (LEX.of (by simp only [go_sem, List.contains_cons, List.contains_nil, Nat.reduceBEq, Bool.or_false, Bool.false_or, Nat.reduceAdd, true_or, false_or, true_and]; first | done | trivial | (and_intros <;> first | exact ⟨_, rfl⟩ | trivial)))) : DW P fx ops X B lo hi i (o :: r) N T (L :: Ls) K :=
  DW.callS htt hen ms keep hb hg hc hA hS hnd hok hkr hi' hsub hK hp hs hrest
end
end
end Go.Lift
/- The kit's own contracts, as contracts of this library: what is only read in, plain values out. -/
namespace Go.Lift
open Go Go.RowKit

end Go.Lift
/- Rows whose elements hold trees. -/
namespace Go.Lift
class CellsT {α : Type} (f : α → List IV) (n : outParam Nat) : Prop where
  len : ∀ a, (f a).length = n
  tree : ∀ a, (f a).all isTree = true
section
variable {α : Type} {f : α → List IV} {n : Nat} [h : CellsT f n]
include h
@[go_sem] theorem cellsT_take (l : List α) (k : Nat) : (encs f l).take (k * n) = encs f (l.take k) := encs_take h.len l k
@[go_sem] theorem cellsT_length (l : List α) : (encs f l).length = l.length * n := encs_length h.len l
@[go_sem] theorem cellsT_isTree (l : List α) : (encs f l).all isTree = true := encs_all h.tree l
@[go_sem] theorem cellsT_len1 (a : α) : (f a).length = n := h.len a
end
end Go.Lift
/- Floats that are whole numbers. -/
namespace Go.Lift
open Go Go.RowKit

end Go.Lift
/- A callee's result, its own rows only read from there on. -/
namespace Go.Lift
open Go Go.RowKit

mutual
def frzR : IV → IV
  | .own _ n _ cs => .tr n cs
  | .ago cs => .agg (frzRl cs)
  | .tup cs => .tup (frzRl cs)
  | .v x => .v x
  | .emp => .emp
  | .tr n cs => .tr n cs
  | .agg cs => .agg cs
  | .rp cs o => .rp cs o
  | .sl k v o m => .sl k v o m
  | .ptr k v o => .ptr k v o
  | .fn f cs => .fn f cs
  | .obj cs => .obj cs
  | .gone => .gone
def frzRl : List IV → List IV
  | [] => []
  | x :: xs => frzR x :: frzRl xs
end
mutual
def canT : IV → Bool
  | .own _ _ _ _ => true
  | .ago cs => canTl cs
  | .v _ => true
  | .emp => true
  | .tr _ _ => true
  | .agg _ => true
  | _ => false
def canTl : List IV → Bool
  | [] => true
  | x :: xs => canT x && canTl xs
end
def canF : IV → Bool
  | .tup cs => canTl cs
  | x => canT x
section
variable {P : Program} {R R2 : Nat → Prop} {w : World}
mutual
theorem BR.blk : ∀ (x : IV) (y : Value) (os : List OwnR), canT x = true → BR P R w x y os → ∀ z ∈ os, ∃ g, z = .blk g ∧ g < w.heap.size
  | .own e n fl cs, y, os, _, h => by
    unfold BR at h
    obtain ⟨sz, _, _, h⟩ := h
    rcases h with ⟨_, _, rfl, _⟩ | ⟨xs, g, cap, rfl, h1, _, rfl⟩
    · simp
    · intro z hz
      simp at hz; subst hz
      refine ⟨g, rfl, ?_⟩
      obtain ⟨_, h1 | ⟨g', cap', cur, e1, _, e2, _⟩⟩ := h1
      · exact absurd h1.1 (by simp)
      · simp at e1
        obtain ⟨rfl, _⟩ := e1
        exact lt_of_heap e2
  | .ago cs, y, os, hc, h => by
    unfold BR at h
    obtain ⟨arr, rfl, h1, _⟩ := h
    unfold canT at hc
    exact BRl.blk cs _ os hc h1
  | .v x, y, os, _, h => by unfold BR at h; obtain ⟨_, rfl⟩ := h; simp
  | .emp, y, os, _, h => by unfold BR at h; obtain ⟨_, rfl⟩ := h; simp
  | .tr n cs, y, os, _, h => by unfold BR at h; obtain ⟨_, rfl⟩ := h; simp
  | .agg cs, y, os, _, h => by unfold BR at h; obtain ⟨_, rfl⟩ := h; simp
  | .rp _ _, _, _, hc, _ => by simp [canT] at hc
  | .sl _ _ _ _, _, _, hc, _ => by simp [canT] at hc
  | .ptr _ _ _, _, _, hc, _ => by simp [canT] at hc
  | .tup _, _, _, hc, _ => by simp [canT] at hc
  | .fn _ _, _, _, hc, _ => by simp [canT] at hc
  | .obj _, _, _, hc, _ => by simp [canT] at hc
  | .gone, _, _, hc, _ => by simp [canT] at hc
theorem BRl.blk : ∀ (xs : List IV) (ys : List Value) (os : List OwnR), canTl xs = true → BRl P R w xs ys os → ∀ z ∈ os, ∃ g, z = .blk g ∧ g < w.heap.size
  | [], ys, os, _, h => by unfold BRl at h; obtain ⟨_, rfl⟩ := h; simp
  | x :: xs, ys, os, hc, h => by
    unfold BRl at h
    obtain ⟨y, ys', o1, o2, rfl, h1, h2, rfl⟩ := h
    simp only [canTl, Bool.and_eq_true] at hc
    intro z hz
    rcases List.mem_append.1 hz with hz | hz
    · exact BR.blk x y o1 hc.1 h1 z hz
    · exact BRl.blk xs ys' o2 hc.2 h2 z hz
end
mutual
theorem BR.frz (hR : ∀ b, R b → R2 b) : ∀ (x : IV) (y : Value) (os : List OwnR), canT x = true → (∀ b o, Owns os b o → R2 b) → BR P R w x y os → TR R2 w (frzR x) y
  | .own e n fl cs, y, os, _, ho, h => by
    unfold BR at h
    obtain ⟨sz, _, _, h⟩ := h
    unfold frzR TR
    rcases h with ⟨rfl, rfl, rfl, ad, rfl⟩ | ⟨xs, g, cap, rfl, h1, h2, rfl⟩
    · exact ⟨ad, 0, rfl, Nat.le_refl _, .inl rfl⟩
    · obtain ⟨_, h1 | ⟨g', cap', cur, e1, _, e2, e3, _, e5, e6⟩⟩ := h1
      · exact absurd h1.1 (by simp)
      · simp at e1
        obtain ⟨rfl, rfl⟩ := e1
        refine ⟨_, cap, rfl, e3, .inr ⟨g, 0, rfl, ho g 0 ⟨_, List.mem_singleton.2 rfl, rfl⟩, TRm.of_get fun i x hi => ?_⟩⟩
        obtain ⟨y, y1, y2⟩ := h2.get i x hi
        rw [← e6] at y1
        have hy : cur.toList[i]? = some y := by
          rw [List.getElem?_take] at y1
          split at y1
          · exact y1
          · cases y1
        exact ⟨y, by simp [World.cell?, e2]; simpa using hy, TR.mono hR (fun _ _ => rfl) _ _ y2.1, y2.2⟩
  | .ago cs, y, os, hc, ho, h => by
    unfold BR at h
    obtain ⟨arr, rfl, h1, h2⟩ := h
    unfold canT at hc
    unfold frzR TR
    exact ⟨arr, rfl, BRl.frz hR cs _ os hc ho h1 h2⟩
  | .v x, y, os, _, _, h => by unfold BR at h; unfold frzR TR; exact h.1
  | .emp, y, os, _, _, h => by unfold BR at h; unfold frzR TR; exact h.1
  | .tr n cs, y, os, _, _, h => by unfold BR at h; unfold frzR; exact TR.mono hR (fun _ _ => rfl) _ _ h.1
  | .agg cs, y, os, _, _, h => by unfold BR at h; unfold frzR; exact TR.mono hR (fun _ _ => rfl) _ _ h.1
  | .rp _ _, _, _, hc, _, _ => by simp [canT] at hc
  | .sl _ _ _ _, _, _, hc, _, _ => by simp [canT] at hc
  | .ptr _ _ _, _, _, hc, _, _ => by simp [canT] at hc
  | .tup _, _, _, hc, _, _ => by simp [canT] at hc
  | .fn _ _, _, _, hc, _, _ => by simp [canT] at hc
  | .obj _, _, _, hc, _, _ => by simp [canT] at hc
  | .gone, _, _, hc, _, _ => by simp [canT] at hc
theorem BRl.frz (hR : ∀ b, R b → R2 b) : ∀ (xs : List IV) (ys : List Value) (os : List OwnR), canTl xs = true → (∀ b o, Owns os b o → R2 b) → BRl P R w xs ys os → (∀ z ∈ ys, z.oneCell' = true) → TRl R2 w (frzRl xs) ys
  | [], ys, os, _, _, h, _ => by unfold BRl at h; unfold frzRl TRl; exact h.1
  | x :: xs, ys, os, hc, ho, h, hz => by
    unfold BRl at h
    obtain ⟨y, ys', o1, o2, rfl, h1, h2, rfl⟩ := h
    simp only [canTl, Bool.and_eq_true] at hc
    unfold frzRl TRl
    exact ⟨y, ys', rfl, ⟨BR.frz hR x y o1 hc.1 (fun b o ⟨r, hr, hh⟩ => ho b o ⟨r, List.mem_append_left _ hr, hh⟩) h1, hz y (by simp)⟩,
      BRl.frz hR xs ys' o2 hc.2 (fun b o ⟨r, hr, hh⟩ => ho b o ⟨r, List.mem_append_right _ hr, hh⟩) h2 fun z hz' => hz z (by simp [hz'])⟩
end
theorem BR.frz' (hR : ∀ b, R b → R2 b) {x : IV} {y : Value} {os : List OwnR} (hc : canT x = true) (ho : ∀ b o, Owns os b o → R2 b) (h : BR P R w x y os) : BR P R2 w (frzR x) y [] := by
  have ht := BR.frz hR x y os hc ho h
  have hi : idFree (frzR x) = true := by cases x <;> simp [canT] at hc <;> simp [frzR, idFree]
  exact BR_of_TR hi ht
theorem BRl.frz' (hR : ∀ b, R b → R2 b) : ∀ {xs : List IV} {ys : List Value} {os : List OwnR}, canTl xs = true → (∀ b o, Owns os b o → R2 b) → BRl P R w xs ys os → BRl P R2 w (frzRl xs) ys []
  | [], ys, os, _, _, h => by unfold BRl at h; unfold frzRl BRl; exact ⟨h.1, rfl⟩
  | x :: xs, ys, os, hc, ho, h => by
    unfold BRl at h
    obtain ⟨y, ys', o1, o2, rfl, h1, h2, rfl⟩ := h
    simp only [canTl, Bool.and_eq_true] at hc
    unfold frzRl BRl
    exact ⟨y, ys', [], [], rfl, BR.frz' hR hc.1 (fun b o ⟨r, hr, hh⟩ => ho b o ⟨r, List.mem_append_left _ hr, hh⟩) h1,
      BRl.frz' hR hc.2 (fun b o ⟨r, hr, hh⟩ => ho b o ⟨r, List.mem_append_right _ hr, hh⟩) h2, rfl⟩
theorem BR.frzF (hR : ∀ b, R b → R2 b) {x : IV} {y : Value} {os : List OwnR} (hc : canF x = true) (ho : ∀ b o, Owns os b o → R2 b) (h : BR P R w x y os) : BR P R2 w (frzR x) y [] := by
  cases x
  case tup cs =>
    unfold BR at h
    obtain ⟨arr, rfl, h1⟩ := h
    unfold frzR BR
    exact ⟨arr, rfl, BRl.frz' hR (by simpa [canF] using hc) ho h1⟩
  all_goals exact BR.frz' hR (by simpa [canF] using hc) ho h
theorem BR.blkF {x : IV} {y : Value} {os : List OwnR} (hc : canF x = true) (h : BR P R w x y os) : ∀ z ∈ os, ∃ g, z = .blk g ∧ g < w.heap.size := by
  cases x
  case tup cs =>
    unfold BR at h
    obtain ⟨arr, rfl, h1⟩ := h
    exact BRl.blk cs _ os (by simpa [canF] using hc) h1
  all_goals exact BR.blk _ y os (by simpa [canF] using hc) h
theorem SCall.frz {f : FuncId} {A A' : List IV} {r : IV} (h : SCall P f A r A') (hc : canF r = true) : SCall P f A (frzR r) A' := by
  intro w R vals os hA hd hlt hos
  refine (h w R vals os hA hd hlt hos).mono ?_
  rintro e w' ⟨v, R', o1, o2, rfl, r1, r2, r3, r4, r5, r6, r7, r8⟩
  have hb := BR.blkF hc r1
  have hd2 := List.pairwise_append.1 r3
  refine ⟨v, fun b => R' b ∨ ∃ o, Owns o1 b o, [], o2, rfl, BR.frzF (fun b h => .inl h) hc (fun b o h => .inr ⟨o, h⟩) r1, BRl.mono (fun b h => .inl h) _ _ _ r2, hd2.2.1, fun b h => .inl (r4 b h), ?_, ?_, fun b o ⟨z, hz, hh⟩ => r7 b o ⟨z, List.mem_append_right _ hz, hh⟩, r8⟩
  · rintro b (h | ⟨o, z, hz, hh⟩)
    · exact r5 b h
    · obtain ⟨g, rfl, hg⟩ := hb z hz
      have hbg : b = g := hh
      subst hbg
      exact ⟨hg, (r7 b o ⟨_, List.mem_append_left _ hz, hh⟩).elim (fun k => .inr (.inl ⟨o, k⟩)) fun k => .inr (.inr k)⟩
  · rintro b o (h | ⟨o', z, hz, hh⟩) ⟨z2, hz2, hh2⟩
    · exact r6 b o h ⟨z2, List.mem_append_right _ hz2, hh2⟩
    · obtain ⟨g, rfl, hg⟩ := hb z hz
      have hbg : b = g := hh
      subst hbg
      exact hd2.2.2 _ hz _ hz2 b o rfl hh2
end
attribute [go_sem] frzR frzRl
end Go.Lift
/- Package variables that hold tables of numbers, out of what a row's condition says of them. -/
namespace Go.Lift
open Go Go.RowKit

end Go.Lift
/- A slice is held against nil. -/
namespace Go.Lift
open Go Go.RowKit

def someIV : IV → Prop
  | .tr _ cs => cs ≠ []
  | .sl _ _ _ n => 0 < n
  | _ => False
section
variable {P : Program} {TT : TTab} {fx : Fx} {o : Oper} {K : St → Prop}
theorem IP.nilcmp (htt : TTok P TT) {t e t' : TypeId} {x : Operand} {i : TI} {v : IV} {σ : St} (ho : o.op = .binOp .eql t x (.const (.slice none 0 0)) t') (ht : TT t = some i) (hd : i.desc = .slice e) (hx : ev σ x = some v) (hv : someIV v)
    (h2 : fin o σ (.v (.bool false)) σ.L K) : IP P fx o K σ := by
  intro cx a w next QQ hs hn
  have hu := slice_under (htt _ _ ht) hd
  have hy := ev_sound hs.s hx
  obtain ⟨ad, n, c, e1⟩ : ∃ ad n c, a.eval x = .slice (some ad) n c := by
    cases v <;> simp only [someIV] at hv
    · rename_i n cs
      unfold VX TR at hy
      obtain ⟨a', c, h1, _, h3⟩ := hy
      rcases h3 with h3 | ⟨b, oo, rfl, _⟩
      · exact absurd h3 hv
      · exact ⟨_, _, _, h1⟩
    · rename_i k ver oo n
      unfold VX at hy
      obtain ⟨p, _, hy⟩ := hy
      rcases hy with ⟨_, _, _, h⟩ | ⟨g, m, cap, ad, _, h1, _⟩
      · omega
      · exact ⟨_, _, _, h1⟩
  have e2 : a.eval (.const (.slice none 0 0)) = .slice none 0 0 := rfl
  have hg : (eqGuard .eql t x (.const (.slice none 0 0)) (.slice (some ad) n c) (.slice none 0 0)).run P w = .ok () w := eqGuard_run rfl
  exact pure_sound hs (y := .bool false) (by simp [execOp, ho, e1, e2, hg, Lib.run_eql_slice_nil w t e (some ad) n c 0 0 hu]) (by simp [VX]) h2 fun σ1 cx' a' w' hk _ hs' => hn σ1 cx' a' w' hk hs'
theorem IL.nilcmp (htt : TTok P TT) {ops : Array Oper} {r : List Oper} {t e t' : TypeId} {x : Operand} {i : TI} {v : IV} {σ σ' : St} (hg : Gok ops σ o) (ho : o.op = .binOp .eql t x (.const (.slice none 0 0)) t') (ht : TT t = some i) (hd : i.desc = .slice e) (hx : ev σ x = some v) (hv : someIV v)
    (hK : ∀ K : St → Prop, K σ' → fin o σ (.v (.bool false)) σ.L K) (hr : IL P fx ops r K σ') : IL P fx ops (o :: r) K σ := IL.ok hg (IP.nilcmp htt ho ht hd hx hv (hK _ hr))
theorem IP.nilcmpU (htt : TTok P TT) {t e t' : TypeId} {x : Operand} {i : TI} {n : Nat} {cs : List IV} {σ : St} (ho : o.op = .binOp .eql t x (.const (.slice none 0 0)) t') (ht : TT t = some i) (hd : i.desc = .slice e) (hx : ev σ x = some (.tr n cs))
    (h2 : ∀ b, fin o σ (.v (.bool b)) σ.L K) : IP P fx o K σ := by
  intro cx a w next QQ hs hn
  have hu := slice_under (htt _ _ ht) hd
  have hy := ev_sound hs.s hx
  unfold VX TR at hy
  obtain ⟨ad, c, e1, _⟩ := hy
  have e2 : a.eval (.const (.slice none 0 0)) = .slice none 0 0 := rfl
  have hg : (eqGuard .eql t x (.const (.slice none 0 0)) (.slice ad n c) (.slice none 0 0)).run P w = .ok () w := eqGuard_run rfl
  exact pure_sound hs (v := .v (.bool ad.isNone)) (y := .bool ad.isNone) (by have h3 := Lib.run_eql_slice_nil w t e ad n c 0 0 hu; simp only [execOp, ho, e1, e2, Sem.run_bind, hg, Result.andThen_ok, h3]; first | rfl | simp) (by simp [VX]) (h2 ad.isNone) fun σ1 cx' a' w' hk _ hs' => hn σ1 cx' a' w' hk hs'
theorem IL.nilcmpU (htt : TTok P TT) {ops : Array Oper} {r : List Oper} {t e t' : TypeId} {x : Operand} {i : TI} {n : Nat} {cs : List IV} {σ : St} {σ' : Bool → St} (hg : Gok ops σ o) (ho : o.op = .binOp .eql t x (.const (.slice none 0 0)) t') (ht : TT t = some i) (hd : i.desc = .slice e) (hx : ev σ x = some (.tr n cs))
    (hK : ∀ (b : Bool) (K : St → Prop), K (σ' b) → fin o σ (.v (.bool b)) σ.L K) (hr : ∀ b, IL P fx ops r K (σ' b)) : IL P fx ops (o :: r) K σ := IL.ok hg (IP.nilcmpU htt ho ht hd hx fun b => hK b _ (hr b))
end
attribute [go_sem] someIV
end Go.Lift
/- Rows at the machine: copy within a row, a row's cells rewritten. -/
namespace Go.Lift
open Go Go.RowKit

def spl (arr : Array Value) (o : Nat) (us : List Value) : Array Value := (arr.toList.take o ++ us ++ arr.toList.drop (o + us.length)).toArray
theorem spl_size (arr : Array Value) (o : Nat) (us : List Value) (h : o + us.length ≤ arr.size) : (spl arr o us).size = arr.size := by simp [spl]; omega
theorem spl_get (arr : Array Value) (o : Nat) (us : List Value) (h : o + us.length ≤ arr.size) (j : Nat) : (spl arr o us)[j]? = if o ≤ j ∧ j < o + us.length then us[j - o]? else arr[j]? := by
  simp only [spl, List.getElem?_toArray]
  rw [List.getElem?_append, List.getElem?_append]
  simp only [List.length_append, List.length_take, Array.length_toList]
  have hmin : min o arr.size = o := by omega
  rw [hmin]
  by_cases c1 : j < o
  · rw [if_pos (by omega), if_pos c1, if_neg (by omega), List.getElem?_take, if_pos c1]; simp
  · by_cases c2 : j < o + us.length
    · rw [if_pos c2, if_neg c1, if_pos ⟨by omega, c2⟩]
    · rw [if_neg c2, if_neg (by omega), List.getElem?_drop]
      rw [show o + us.length + (j - (o + us.length)) = j by omega]; simp
section
variable {P : Program}
theorem run_copyR (w : World) {dT sT ty e : TypeId} {i : TypeInfo} (hu : P.underlying dT = some (.slice e)) (hi : P.info? e = some i) {g o : Nat} {T : TypeId} {arr : Array Value} (hg : w.heap[g]? = some (.cells arr T (0, 0)))
    (dLen dCap : Nat) (a : Addr) (sLen sCap m : Nat) (us : List Value) (hm : min sLen dLen = m) (hn : us.length = m * i.size) (hsrc : ∀ j v, us[j]? = some v → w.cell? (a.add j) = some v)
    (hl : o + us.length ≤ arr.size) (h1 : ∀ v ∈ us, v.oneCell' = true) :
    (Builtin.copy_ #[dT, sT] ty #[.slice (some ⟨g, o, none⟩) dLen dCap, .slice (some a) sLen sCap]).run P w = .ok (goInt m) (w.setRow g (spl arr o us)) := by
  have hld := run_loadCells_list (P := P) w a us hsrc
  have hst := run_storeCells_at P g o T us 0 arr w hg (by simpa using hl) h1
  simp only [Nat.add_zero] at hst
  have hm' : Nat.min sLen dLen = m := hm
  simp [Builtin.copy_, run_underlying hu, Builtin.lenOf, Builtin.firstCells, sizeOf, typeInfo, hi, hm', ← hn, hld, hst, spl]
end
end Go.Lift
/- slices.Insert's contract, out of its three roads. -/
namespace Go.Lift
open Go Go.RowKit

theorem TRl.drop {R : Nat → Prop} {w : World} {xs : List IV} {ys : List Value} (h : TRl R w xs ys) (n : Nat) : TRl R w (xs.drop n) (ys.drop n) :=
  TRl.of_get (by simp [h.length]) fun i x y hx hy => by
    rw [List.getElem?_drop] at hx hy
    obtain ⟨y', h1, h2⟩ := h.get _ x hx
    rw [hy] at h1; cases h1; exact h2
theorem TRl.one {R : Nat → Prop} {w : World} {xs : List IV} {ys : List Value} (h : TRl R w xs ys) : ∀ v ∈ ys, v.oneCell' = true := fun v hv => by
  obtain ⟨i, hi, he⟩ := List.getElem_of_mem hv
  obtain ⟨y, h1, _, h3⟩ := h.get i _ (List.getElem?_eq_getElem (by rw [← h.length]; exact hi))
  rw [List.getElem?_eq_getElem hi, he] at h1
  cases h1; exact h3
theorem spl_fr {w : World} {g : Nat} {arr : Array Value} {T : TypeId} (hg : w.heap[g]? = some (.cells arr T (0, 0))) (o : Nat) (us : List Value) (h : o + us.length ≤ arr.size) {os : List OwnR} (hown : ∀ j, Owns os g j) : Fr w (w.setRow g (spl arr o us)) os :=
  Fr.setRow hg (spl_size _ _ _ h) _ fun j hj => absurd (hown j) hj
section
variable {P : Program}
theorem row_out {e : TypeId} {sz : Nat} (hinfo : ∃ i, P.info? e = some i ∧ i.size = sz ∧ 0 < sz) {R : Nat → Prop} {w w' : World} {os : List OwnR} {g' N cap' : Nat} {arr' : Array Value} {fl : Bool} {cs' : List IV} {vals : List Value} {A' : List IV}
    (hfl : fl = true → ∀ x ∈ cs', ∃ z, x = .v z) (hf : Fr w w' os) (hRlt : ∀ b, R b → b < w.heap.size) (hRos : ∀ b o, R b → ¬ Owns os b o) (hg : w'.heap[g']? = some (.cells arr' e (0, 0))) (hN : N ≤ cap') (hm : cap' ≤ maxLen) (hsz : arr'.size = cap' * sz)
    (htr : TRl R w cs' (arr'.toList.take (N * sz))) (hwh : OwnR.blk g' ∈ os ∨ w.heap.size ≤ g') (hA : BRl P R w' A' vals []) :
    ∃ v R' o1 o2, Ending.returned (.slice (some ⟨g', 0, none⟩) N cap') = .returned v ∧ BR P R' w' (.own e N fl cs') v o1 ∧ BRl P R' w' A' vals o2 ∧ Disj (o1 ++ o2) ∧ (∀ b, R b → R' b) ∧
      (∀ b, R' b → b < w'.heap.size ∧ (R b ∨ (∃ o, Owns os b o) ∨ w.heap.size ≤ b)) ∧ (∀ b o, R' b → ¬ Owns (o1 ++ o2) b o) ∧ (∀ b o, Owns (o1 ++ o2) b o → Owns os b o ∨ w.heap.size ≤ b) ∧ Fr w w' os := by
  have hw : HeapEq R w w' := fun b hb => hf.hblk b (hRlt b hb) fun o => hRos b o hb
  have hle := Nat.mul_le_mul_right sz hN
  have own : ∀ b o, Owns [OwnR.blk g'] b o → b = g' := fun b o ⟨x, hx, hh⟩ => by
    simp at hx; subst hx; exact hh
  refine ⟨_, R, [.blk g'], [], rfl, ?_, hA, by simp [Disj], fun b hb => hb, fun b hb => ⟨Nat.lt_of_lt_of_le (hRlt b hb) hf.hsize, .inl hb⟩, fun b o hb ho => ?_, fun b o ho => ?_, hf⟩
  · unfold BR
    refine ⟨sz, hinfo, hfl, .inr ⟨_, g', cap', rfl, ⟨?_, .inr ⟨g', cap', arr', rfl, Nat.zero_le _, hg, hN, hm, hsz, rfl⟩⟩, TRl.mono (fun _ h => h) hw _ _ htr, rfl⟩⟩
    rw [List.length_take, Array.length_toList, hsz]; omega
  · have := own b o (by simpa using ho)
    subst this
    rcases hwh with h | h
    · exact hRos b o hb ⟨_, h, rfl⟩
    · have := hRlt b hb; omega
  · have := own b o (by simpa using ho)
    rw [this]
    exact hwh.imp (fun h => ⟨OwnR.blk g', h, rfl⟩) id
theorem SCall.of_insert {f : FuncId} {e tS tV tI : TypeId} {ie : TypeInfo} {z : Value} {kn : IntKind} {sz : Nat} (hi : P.info? e = some ie) (hsz : ie.size = sz) (h0 : 0 < sz) (hz : ie.zero = some z) (hzc : z.cells.size = sz)
    (uS : P.underlying tS = some (.slice e)) (uV : P.underlying tV = some (.slice e)) (uI : P.underlying tI = some (.int kn))
    (Hs : ∀ (g n c i gv m vc : Nat) (cur curv : Array Value) (us vs : List Value) (w : World), i < n → 0 < m → n + m ≤ c → c ≤ 9223372036854775807 → gv ≠ g → w.heap[g]? = some (.cells cur e (0, 0)) → cur.size = c * sz →
      w.heap[gv]? = some (.cells curv e (0, 0)) → us.length = (n - i) * sz → (∀ (j : Nat) (v : Value), us[j]? = some v → cur[i * sz + j]? = some v) → vs.length = m * sz → (∀ (j : Nat) (v : Value), vs[j]? = some v → curv[j]? = some v) →
      (∀ v ∈ us, v.oneCell' = true) → (∀ v ∈ vs, v.oneCell' = true) → Calls P f #[.slice (some ⟨g, 0, none⟩) n c, .int .i64 i, .slice (some ⟨gv, 0, none⟩) m vc] w fun e w' =>
        e = .returned (.slice (some ⟨g, 0, none⟩) (n + m) c) ∧ w' = (w.drew.setRow g (spl cur ((i + m) * sz) us)).setRow g (spl (spl cur ((i + m) * sz) us) (i * sz) vs))
    (He : ∀ (base : Option Addr) (n c gv m vc : Nat) (w w1 : World) (v : Value), 0 < m → n ≤ c → c ≤ 9223372036854775807 → (∀ ty, (Builtin.append_ #[tS, tV] ty #[.slice base n c, .slice (some ⟨gv, 0, none⟩) m vc]).run P w = .ok v w1) →
      Calls P f #[.slice base n c, .int .i64 n, .slice (some ⟨gv, 0, none⟩) m vc] w fun e w' => e = .returned v ∧ w' = w1)
    (Hg : ∀ (g n c i gv m vc g2 c2 : Nat) (w w1 w2 w3 : World), i < n → n ≤ c → 0 < m → c < n + m → n + m ≤ 9223372036854775807 → n + m ≤ c2 →
      (∀ ty, (Builtin.append_ #[tS, tI] ty #[.slice (some ⟨g, 0, none⟩) i c, .int .i64 ((n : Int) + m - i)]).run P w = .ok (.slice (some ⟨g2, 0, none⟩) (n + m) c2) w1) →
      (∀ ty dc, (Builtin.copy_ #[tS, tV] ty #[.slice (some ⟨g2, i * sz, none⟩) (n + m - i) dc, .slice (some ⟨gv, 0, none⟩) m vc]).run P w1 = .ok (goInt (m : Nat)) w2) →
      (∀ ty dc sc, (Builtin.copy_ #[tS, tS] ty #[.slice (some ⟨g2, (i + m) * sz, none⟩) (n + m - (i + m)) dc, .slice (some ⟨g, i * sz, none⟩) (n - i) sc]).run P w2.drew = .ok (goInt (n - i : Nat)) w3) →
      Calls P f #[.slice (some ⟨g, 0, none⟩) n c, .int .i64 i, .slice (some ⟨gv, 0, none⟩) m vc] w fun e w' => e = .returned (.slice (some ⟨g2, 0, none⟩) (n + m) c2) ∧ w' = w3)
    (i n m : Nat) (fl : Bool) (cs xs : List IV) (hin : i ≤ n) (hm : 0 < m) (hmax : n + m ≤ maxLen) (hfit : (n + m) * ie.bytes ≤ 140737488355328) :
    SCall P f [.own e n fl cs, .v (.int .i64 i), .own e m fl xs] (.own e (n + m) fl (cs.take (i * sz) ++ xs ++ cs.drop (i * sz))) [.gone, .v (.int .i64 i), .gone] := by
  subst hsz
  intro w R vals os hB hdis hRlt hRos
  unfold BRl at hB
  obtain ⟨y0, ys, o1, o2, rfl, b0, hB, rfl⟩ := hB
  unfold BRl at hB
  obtain ⟨yi, ys2, o3, o4, rfl, bi, hB, rfl⟩ := hB
  unfold BRl at hB
  obtain ⟨y1, ys3, o5, o6, rfl, b1, hB, rfl⟩ := hB
  unfold BRl at hB
  obtain ⟨rfl, rfl⟩ := hB
  unfold BR at b0 bi b1
  obtain ⟨rfl, rfl⟩ := bi
  obtain ⟨s1, ⟨j1, q1, q2, q3⟩, hfl1, b1⟩ := b1
  rw [hi] at q1; cases q1
  subst q2
  obtain ⟨s0, ⟨j0, q1, q2, q4⟩, hfl0, b0⟩ := b0
  rw [hi] at q1; cases q1
  subst q2
  have hinfo : ∃ i, P.info? e = some i ∧ i.size = ie.size ∧ 0 < ie.size := ⟨ie, hi, rfl, h0⟩
  have hfl : fl = true → ∀ x ∈ cs.take (i * ie.size) ++ xs ++ cs.drop (i * ie.size), ∃ z, x = .v z := fun hf x hx => by
    simp only [List.mem_append] at hx
    rcases hx with (hx | hx) | hx
    · exact hfl0 hf x (List.mem_of_mem_take hx)
    · exact hfl1 hf x hx
    · exact hfl0 hf x (List.mem_of_mem_drop hx)
  rcases b1 with ⟨h, _⟩ | ⟨vs, gv, vc, rfl, ⟨l1, hown1⟩, t1, rfl⟩
  · omega
  rcases hown1 with ⟨h, _⟩ | ⟨g', cap', curv, e4, _, hgv, k1, k2, k3, hvs⟩
  · cases h
  cases e4
  have hkm := Nat.mul_le_mul_right ie.size k1
  have hvc : ∀ (j : Nat) (v : Value), vs[j]? = some v → curv[j]? = some v := fun j v hj => by
    rw [← hvs, List.getElem?_take] at hj
    split at hj
    · simpa using hj
    · cases hj
  have hA : ∀ w' y0 y1, BRl P R w' [.gone, .v (.int .i64 i), .gone] [y0, .int .i64 i, y1] [] := fun w' y0 y1 => by
    unfold BRl
    refine ⟨y0, _, [], [], rfl, by unfold BR; rfl, ?_, rfl⟩
    unfold BRl
    refine ⟨_, _, [], [], rfl, by unfold BR; exact ⟨rfl, rfl⟩, ?_, rfl⟩
    unfold BRl
    refine ⟨_, _, [], [], rfl, by unfold BR; rfl, ?_, rfl⟩
    unfold BRl
    exact ⟨rfl, rfl⟩
  have hm63 : n + m ≤ 9223372036854775807 := by simp only [maxLen] at hmax; omega
  have src : ∀ w1 : World, w1.heap[gv]? = some (.cells curv e (0, 0)) → Src P w1 tV (.slice (some ⟨gv, 0, none⟩) m vc) m ie.size vs := fun w1 hw1 =>
    src_slice uV l1 t1.one (.inr ⟨gv, 0, rfl, fun j v hj => by rw [Nat.zero_add]; exact (cell_of_row _ gv j curv _ _ hw1).trans (hvc j v hj)⟩)
  have fresh : ∀ (row : Array Value), Fr w (w.drew.alloc (.cells row e)) [] := fun row => ((Fr.drew w []).trans (Fr.alloc_nil w.drew _) (fun _ _ h => .inl h))
  have done : ∀ (base : Option Addr) (c : Nat) (us : List Value) (os' : List OwnR), (∀ w1 : World, w1.heap = w.heap → (Builtin.firstCells ie.size n (.slice base n c)).run P w1 = .ok us.toArray w1) → i = n → n ≤ c → c ≤ maxLen → c < n + m → us.length = n * ie.size → TRl R w cs us →
      (∀ b o, R b → ¬ Owns os' b o) → Calls P f #[.slice base n c, .int .i64 i, .slice (some ⟨gv, 0, none⟩) m vc] w fun e1 w' => ∃ v R' o1 o2, e1 = .returned v ∧ BR P R' w' (.own e (n + m) fl (cs.take (i * ie.size) ++ xs ++ cs.drop (i * ie.size))) v o1 ∧ BRl P R' w' [.gone, .v (.int .i64 i), .gone] [.slice base n c, .int .i64 i, .slice (some ⟨gv, 0, none⟩) m vc] o2 ∧ Disj (o1 ++ o2) ∧ (∀ b, R b → R' b) ∧
      (∀ b, R' b → b < w'.heap.size ∧ (R b ∨ (∃ o, Owns os' b o) ∨ w.heap.size ≤ b)) ∧ (∀ b o, R' b → ¬ Owns (o1 ++ o2) b o) ∧ (∀ b o, Owns (o1 ++ o2) b o → Owns os' b o ∨ w.heap.size ≤ b) ∧ Fr w w' os' := by
    intro base c us os' ho hie hnc hcm hroom hul tr hRos'
    subst hie
    refine (He base i c gv m vc w _ _ hm hnc (by simp only [maxLen] at hcm; omega) fun ty => run_append_new (ty := ty) uS hi hz (src w hgv) ho hroom hm63 hfit).mono ?_
    rintro e' w' ⟨rfl, rfl⟩
    have hcl : cs.length = i * ie.size := by rw [← hul, tr.length]
    refine row_out hinfo hfl ((fresh _).mono fun b o ⟨x, hx, _⟩ => by simp at hx) hRlt hRos' (heap_alloc_at w.drew _) (grownCap_ge w _ _ _) (grownCap_le_maxLen w _ _ _ hmax) ?_ ?_ (.inr (Nat.le_refl _)) (hA _ _ _)
    · have hge := grownCap_ge w (i + m) c e
      simp only [Array.size_append, List.size_toArray, size_zeroCells, hzc, hul, l1, ← Nat.add_mul]
      congr 1; omega
    · have e2 : (us.toArray ++ vs.toArray ++ Builtin.zeroCells z.cells (grownCap w (i + m) c e - (i + m))).toList.take ((i + m) * ie.size) = us ++ vs := by
        simp only [Array.toList_append]
        have : (i + m) * ie.size = (us ++ vs).length := by simp [hul, l1, Nat.add_mul]
        rw [this]; exact List.take_left
      rw [e2, ← hcl, List.take_length, List.drop_length, List.append_nil]
      exact tr.append t1
  rcases b0 with ⟨rfl, rfl, rfl, ad, rfl⟩ | ⟨us, g, c, rfl, ⟨l0, hown0⟩, t0, rfl⟩
  · exact done ad 0 [] _ (fun w1 _ => by cases ad <;> simp [Builtin.firstCells, loadCells, loadCellsFrom]) (by omega) (Nat.le_refl _) (by simp [maxLen]) (by omega) (by simp) (by unfold TRl; rfl) hRos
  rcases hown0 with ⟨h, _⟩ | ⟨g', cap', cur, e4, _, hg, n1, n2, n3, hus⟩
  · cases h
  cases e4
  have hnc := Nat.mul_le_mul_right ie.size n1
  have hcl : cs.length = n * ie.size := by rw [← l0, t0.length]
  have hne : gv ≠ g := fun h => by
    subst h
    have := (List.pairwise_append.1 hdis).2.2 (.blk gv) (by simp) (.blk gv) (by simp)
    exact this gv 0 rfl rfl
  have huc : ∀ (j : Nat) (v : Value), us[j]? = some v → cur[j]? = some v := fun j v hj => by
    rw [← hus, List.getElem?_take] at hj
    split at hj
    · simpa using hj
    · cases hj
  have hos : ∀ j, Owns ([OwnR.blk g] ++ ([] ++ ([OwnR.blk gv] ++ []))) g j := fun j => ⟨.blk g, by simp, rfl⟩
  have hcell : ∀ (w1 : World), w1.heap[g]? = some (.cells cur e (0, 0)) → ∀ (o : Nat) (vs' : List Value), (∀ (j : Nat) (v : Value), vs'[j]? = some v → us[o + j]? = some v) → ∀ (j : Nat) (v : Value), vs'[j]? = some v → w1.cell? ⟨g, o + j, none⟩ = some v := fun w1 h1 o vs' h j v hj =>
    (cell_of_row w1 g (o + j) cur _ _ h1).trans (huc _ v (h j v hj))
  by_cases hroom : n + m ≤ c
  · have hrc := Nat.mul_le_mul_right ie.size hroom
    have hrm : (n + m) * ie.size = n * ie.size + m * ie.size := Nat.add_mul _ _ _
    by_cases hie : i = n
    · subst hie
      have hrun : ∀ ty, (Builtin.append_ #[tS, tV] ty #[.slice (some ⟨g, 0, none⟩) i c, .slice (some ⟨gv, 0, none⟩) m vc]).run P w = .ok (.slice (some ⟨g, 0, none⟩) (i + m) c) (w.setRow g (spl cur (i * ie.size) vs)) := fun ty => by
        rw [run_append_in (ty := ty) uS hi (src w hgv) hroom]
        have hst := run_storeCells_at P g (i * ie.size) e vs 0 cur w hg (by rw [l1, n3]; omega) t1.one
        simp only [Nat.add_zero] at hst
        simp only [Addr.add_lit, Nat.zero_add, hst, Result.andThen_ok]
        rfl
      refine (He (some ⟨g, 0, none⟩) i c gv m vc w _ _ hm n1 (by simp only [maxLen] at n2; omega) hrun).mono ?_
      rintro e' w' ⟨rfl, rfl⟩
      have hfit' : i * ie.size + vs.length ≤ cur.size := by rw [l1, n3]; omega
      refine row_out hinfo hfl (spl_fr hg _ _ hfit' hos) hRlt hRos (setRow_heap w g cur _ _ _ hg) hroom n2 (by rw [spl_size _ _ _ hfit', n3]) ?_ (.inl (by simp)) (hA _ _ _)
      have e2 : (spl cur (i * ie.size) vs).toList.take ((i + m) * ie.size) = us ++ vs := by
        refine List.ext_getElem? fun j => ?_
        rw [List.getElem?_take, Array.getElem?_toList, spl_get _ _ _ hfit', List.getElem?_append, l0, l1, ← hus]
        by_cases c1 : j < i * ie.size
        · rw [if_pos (by omega), if_neg (by omega), if_pos c1, List.getElem?_take, if_pos c1, Array.getElem?_toList]
        · by_cases c2 : j < (i + m) * ie.size
          · rw [if_pos c2, if_pos (by omega), if_neg c1]
          · rw [if_neg c2, if_neg c1]
            exact (List.getElem?_eq_none (by omega)).symm
      rw [e2, ← hcl, List.take_length, List.drop_length, List.append_nil]
      exact t0.append t1
    · have hlt : i < n := by omega
      have hsub : (n - i) * ie.size = n * ie.size - i * ie.size := Nat.sub_mul _ _ _
      have hil := Nat.mul_le_mul_right ie.size hin
      have him : (i + m) * ie.size = i * ie.size + m * ie.size := Nat.add_mul _ _ _
      have hul : (us.drop (i * ie.size)).length = (n - i) * ie.size := by rw [List.length_drop, l0, hsub]
      refine (Hs g n c i gv m vc cur curv (us.drop (i * ie.size)) vs w hlt hm hroom (by simp only [maxLen] at n2; omega) hne hg n3 hgv hul (fun j v hj => huc _ v (by rwa [List.getElem?_drop] at hj)) l1 hvc
        (fun v hv => t0.one v (List.mem_of_mem_drop hv)) t1.one).mono ?_
      rintro e' w' ⟨rfl, rfl⟩
      have f1 : (i + m) * ie.size + (us.drop (i * ie.size)).length ≤ cur.size := by rw [hul, n3]; omega
      have s1 := spl_size _ _ _ f1
      have f2 : i * ie.size + vs.length ≤ (spl cur ((i + m) * ie.size) (us.drop (i * ie.size))).size := by rw [s1, l1, n3]; omega
      have hg1 := setRow_heap w.drew g cur (spl cur ((i + m) * ie.size) (us.drop (i * ie.size))) _ _ hg
      refine row_out hinfo hfl (((Fr.drew w _).trans (spl_fr (w := w.drew) hg _ _ f1 hos) fun _ _ h => .inl h).trans (spl_fr hg1 _ _ f2 hos) fun _ _ h => .inl h) hRlt hRos (setRow_heap _ g _ _ _ _ hg1) hroom n2 (by rw [spl_size _ _ _ f2, s1, n3]) ?_ (.inl (by simp)) (hA _ _ _)
      have e2 : (spl (spl cur ((i + m) * ie.size) (us.drop (i * ie.size))) (i * ie.size) vs).toList.take ((n + m) * ie.size) = us.take (i * ie.size) ++ vs ++ us.drop (i * ie.size) := by
        refine List.ext_getElem? fun j => ?_
        rw [List.getElem?_take, Array.getElem?_toList, spl_get _ _ _ f2, spl_get _ _ _ f1, hul, l1, List.getElem?_append, List.length_append, List.length_take, l0, l1, Nat.min_eq_left hil, List.getElem?_append, List.length_take, l0, Nat.min_eq_left hil, List.getElem?_take, List.getElem?_drop, List.getElem?_drop]
        by_cases c1 : j < i * ie.size
        · rw [if_pos (by omega), if_neg (by omega), if_neg (by omega), if_pos (by omega), if_pos c1, if_pos c1, ← hus, List.getElem?_take, if_pos (by omega), Array.getElem?_toList]
        · by_cases c2 : j < (i + m) * ie.size
          · rw [if_pos (by omega), if_pos (by omega), if_pos (by omega), if_neg c1]
          · by_cases c3 : j < (n + m) * ie.size
            · rw [if_pos c3, if_neg (by omega), if_pos (by omega), if_neg (by omega)]
              congr 1; omega
            · rw [if_neg c3, if_neg (by omega)]
              exact (List.getElem?_eq_none (by omega)).symm
      rw [e2]
      exact ((t0.take _).append t1).append (t0.drop _)
  · by_cases hie : i = n
    · refine done (some ⟨g, 0, none⟩) c us _ (fun w1 hw => ?_) hie n1 n2 (by omega) l0 t0 hRos
      exact run_firstCells_some w1 ie.size n ⟨g, 0, none⟩ n c us l0 fun j v hj => by
        rw [Addr.add_lit]
        exact hcell w1 (by rw [hw]; exact hg) 0 us (fun j v h => by rwa [Nat.zero_add]) j v hj
    · have hlt : i < n := by omega
      have hsub : (n - i) * ie.size = n * ie.size - i * ie.size := Nat.sub_mul _ _ _
      have hil := Nat.mul_le_mul_right ie.size hin
      have him : (i + m) * ie.size = i * ie.size + m * ie.size := Nat.add_mul _ _ _
      have hnm : (n + m) * ie.size = n * ie.size + m * ie.size := Nat.add_mul _ _ _
      have hul : (us.drop (i * ie.size)).length = (n - i) * ie.size := by rw [List.length_drop, l0, hsub]
      have htl : (us.take (i * ie.size)).length = i * ie.size := by rw [List.length_take, l0, Nat.min_eq_left hil]
      have hk : i + (n + m - i) = n + m := by omega
      have hki : (n : Int) + m - i = ((n + m - i : Nat) : Int) := by omega
      have hold : (Builtin.firstCells ie.size i (.slice (some ⟨g, 0, none⟩) i c)).run P w.drew = .ok (us.take (i * ie.size)).toArray w.drew :=
        run_firstCells_some w.drew ie.size i ⟨g, 0, none⟩ i c _ htl fun j v hj => by
          rw [Addr.add_lit]
          exact hcell w.drew hg 0 _ (fun j v h => by
            rw [List.getElem?_take] at h
            split at h
            · rwa [Nat.zero_add]
            · cases h) j v hj
      have hkb : (n + m - i) * ie.bytes ≤ 281474976710656 := by
        have := Nat.mul_le_mul_right ie.bytes (show n + m - i ≤ n + m by omega)
        omega
      have hgr : c < i + (n + m - i) := by omega
      have hz' := fun ty => Lib.run_append_grow_zeros w tS tI ty e ie z .i64 kn uS uI hi hz (some ⟨g, 0, none⟩) i c _ hold (n + m - i) (by omega) h0 hgr (by omega) hkb (by rw [hk]; exact growslice_fits (by omega) hfit)
      rw [hk] at hz'
      have hge := grownCap_ge w (n + m) c e
      have hrow : ((us.take (i * ie.size)).toArray ++ Builtin.zeroCells z.cells (n + m - i) ++ Builtin.zeroCells z.cells (grownCap w (n + m) c e - (n + m))).size = grownCap w (n + m) c e * ie.size := by
        simp only [Array.size_append, List.size_toArray, size_zeroCells, hzc, htl, ← Nat.add_mul]
        congr 1; omega
      generalize hR0 : (us.take (i * ie.size)).toArray ++ Builtin.zeroCells z.cells (n + m - i) ++ Builtin.zeroCells z.cells (grownCap w (n + m) c e - (n + m)) = row at hz' hrow
      have hlo : ∀ j, j < i * ie.size → row[j]? = us[j]? := fun j hj => by
        rw [← hR0, Array.append_assoc, Array.getElem?_append, if_pos (by simpa [htl] using hj), List.getElem?_toArray, List.getElem?_take, if_pos hj]
      clear hR0
      have hcm := grownCap_le_maxLen w (n + m) c e hmax
      generalize grownCap w (n + m) c e = c2 at hz' hrow hge hcm
      have hcc := Nat.mul_le_mul_right ie.size hge
      have hgs : g < w.heap.size := lt_of_heap hg
      have hgvs : gv < w.heap.size := lt_of_heap hgv
      have hw1 : (w.drew.alloc (.cells row e)).heap[w.heap.size]? = some (.cells row e (0, 0)) := heap_alloc_at w.drew _
      have hlow : ∀ b, b < w.heap.size → (w.drew.alloc (.cells row e)).heap[b]? = w.heap[b]? := fun b hb => heap_alloc_lt (w := w.drew) hb
      have f1 : i * ie.size + vs.length ≤ row.size := by rw [l1, hrow]; omega
      have s1 := spl_size _ _ _ f1
      have f2 : (i + m) * ie.size + (us.drop (i * ie.size)).length ≤ (spl row (i * ie.size) vs).size := by rw [s1, hul, hrow]; omega
      have hg1 := setRow_heap _ w.heap.size row (spl row (i * ie.size) vs) _ _ hw1
      have hlow1 : ∀ b, b < w.heap.size → ((w.drew.alloc (.cells row e)).setRow w.heap.size (spl row (i * ie.size) vs)).heap[b]? = w.heap[b]? := fun b hb => by
        rw [setRow_other _ _ _ _ (by omega)]; exact hlow b hb
      refine (Hg g n c i gv m vc w.heap.size c2 w (w.drew.alloc (.cells row e)) ((w.drew.alloc (.cells row e)).setRow w.heap.size (spl row (i * ie.size) vs))
        (((w.drew.alloc (.cells row e)).setRow w.heap.size (spl row (i * ie.size) vs)).drew.setRow w.heap.size (spl (spl row (i * ie.size) vs) ((i + m) * ie.size) (us.drop (i * ie.size)))) hlt n1 hm (by omega) hm63 hge
        (fun ty => by rw [hki]; exact hz' ty)
        (fun ty dc => run_copyR _ uS hi hw1 (n + m - i) dc _ m vc m vs (by omega) l1 (fun j v hj => by
          rw [Addr.add_lit, Nat.zero_add]
          exact (cell_of_row _ gv j curv _ _ (by rw [hlow gv hgvs]; exact hgv)).trans (hvc j v hj)) f1 t1.one)
        (fun ty dc sc => run_copyR (((w.drew.alloc (.cells row e)).setRow w.heap.size (spl row (i * ie.size) vs)).drew) uS hi (arr := spl row (i * ie.size) vs) (T := e) hg1 (n + m - (i + m)) dc _ (n - i) sc (n - i) (us.drop (i * ie.size)) (by omega) hul (fun j v hj => by
          rw [Addr.add_lit]
          exact hcell _ (by show ((w.drew.alloc (.cells row e)).setRow w.heap.size (spl row (i * ie.size) vs)).heap[g]? = _; rw [hlow1 g hgs]; exact hg) (i * ie.size) _ (fun j v h => by rwa [List.getElem?_drop] at h) j v hj) f2 (fun v hv => t0.one v (List.mem_of_mem_drop hv)))).mono ?_
      rintro e' w' ⟨rfl, rfl⟩
      have hfr : Fr w (w.drew.alloc (.cells row e)) ([OwnR.blk g] ++ ([] ++ ([OwnR.blk gv] ++ []))) := (fresh row).mono fun b o ⟨x, hx, _⟩ => by simp at hx
      have hown : ∀ j, Owns [OwnR.blk w.heap.size] w.heap.size j := fun j => ⟨.blk w.heap.size, by simp, rfl⟩
      have hout : ∀ b o, Owns [OwnR.blk w.heap.size] b o → Owns ([OwnR.blk g] ++ ([] ++ ([OwnR.blk gv] ++ []))) b o ∨ w.heap.size ≤ b := fun b o ⟨x, hx, hh⟩ => by
        simp at hx; subst hx
        exact .inr (Nat.le_of_eq (Eq.symm hh))
      refine row_out hinfo hfl ((hfr.trans (spl_fr hw1 _ _ f1 hown) hout).trans ((Fr.drew _ [OwnR.blk w.heap.size]).trans (spl_fr (w := ((w.drew.alloc (.cells row e)).setRow w.heap.size (spl row (i * ie.size) vs)).drew) hg1 _ _ f2 hown) fun _ _ h => .inl h) hout) hRlt hRos
        (setRow_heap _ w.heap.size _ _ _ _ (show ((w.drew.alloc (.cells row e)).setRow w.heap.size (spl row (i * ie.size) vs)).drew.heap[w.heap.size]? = _ from hg1)) hge hcm (by rw [spl_size _ _ _ f2, s1, hrow]) ?_ (.inr (Nat.le_refl _)) (hA _ _ _)
      have e2 : (spl (spl row (i * ie.size) vs) ((i + m) * ie.size) (us.drop (i * ie.size))).toList.take ((n + m) * ie.size) = us.take (i * ie.size) ++ vs ++ us.drop (i * ie.size) := by
        refine List.ext_getElem? fun j => ?_
        rw [List.getElem?_take, Array.getElem?_toList, spl_get _ _ _ f2, spl_get _ _ _ f1, hul, l1, List.getElem?_append, List.length_append, htl, l1, List.getElem?_append, htl, List.getElem?_take, List.getElem?_drop, List.getElem?_drop]
        by_cases c1 : j < i * ie.size
        · rw [if_pos (by omega), if_neg (by omega), if_neg (by omega), if_pos (by omega), if_pos c1, if_pos c1, hlo j c1]
        · by_cases c2 : j < (i + m) * ie.size
          · rw [if_pos (by omega), if_neg (by omega), if_pos (by omega), if_pos (by omega), if_neg c1]
          · by_cases c3 : j < (n + m) * ie.size
            · rw [if_pos c3, if_pos (by omega), if_neg (by omega)]
              congr 1; omega
            · rw [if_neg c3, if_neg (by omega)]
              exact (List.getElem?_eq_none (by omega)).symm
      rw [e2]
      exact ((t0.take _).append t1).append (t0.drop _)
end
end Go.Lift
/- slices.Delete's contract, out of its walk. -/
namespace Go.Lift
open Go Go.RowKit
section
variable {P : Program}
theorem step_append_runI {ops : Array Oper} {o : Oper} {a : Act} {w : World} {K : Act → World → Prop} {Q : Exit → Act → World → Prop} {E : Prop}
    (hg : o.guard = none) (d x : Operand) (dT sT : TypeId) (hop : o.op = Op.call { callee := Callee.builtin Builtin.append, args := #[d, x], argTypes := #[dT, sT] })
    (v u : Value) (hd : a.eval d = v) (hx : a.eval x = u) {v' : Value} {w' : World} (hr : (Builtin.append_ #[dT, sT] o.type #[v, u]).run P w = .ok v' w') (hK : K (a.put o.dst v') w') :
    if Region.wanted o (yielded ops a.tmps) = true then Oper.wp P o a w K Q else E := by
  have hw : Region.wanted o (yielded ops a.tmps) = true := by simp [Region.wanted, hg]
  rw [if_pos hw]
  unfold Oper.wp
  simp [execOp, hop, resolve, invoke, builtin, hd, hx, hr, Result.andThen]
  exact hK
theorem wpList_clear_runI (w : World) {ops : Array Oper} {rest : List Oper} {o : Oper} {a : Act} {Q : Exit → Act → World → Prop} (hgd : o.guard = none) (d : Operand) (t : TypeId)
    (ho : o.op = .call { callee := .builtin .clear, args := #[d], argTypes := #[t] }) (v : Value) (hd : a.eval d = v) {v' : Value} {w' : World}
    (hr : (Builtin.clear_ #[t] o.type #[v]).run P w = .ok v' w') (h : wpList P ops Q rest (a.put o.dst v') w') : wpList P ops Q (o :: rest) a w :=
  wpList_plain hgd fun _ hK => by
    unfold Oper.wp execOp
    simp only [ho, resolve, invoke, builtin, Sem.run_bind, Sem.run_pure, Result.andThen_ok, List.map_toArray, List.map_cons, List.map_nil, hd, hr]
    exact hK _ _ h
theorem zeroCells_mem {cs : Array Value} {n : Nat} {p : Value → Prop} (h : ∀ u ∈ cs.toList, p u) : ∀ u ∈ (Builtin.zeroCells cs n).toList, p u := by
  intro u hu
  simp [Builtin.zeroCells] at hu
  obtain ⟨i, hi, rfl⟩ := hu
  have h0 : 0 < cs.size := by
    rcases Nat.eq_zero_or_pos cs.size with h0 | h0
    · rw [h0] at hi; simp at hi
    · exact h0
  have hlt := Nat.mod_lt i h0
  rw [getElem!_pos cs _ hlt]
  exact h _ (by simp)
theorem run_clearR (w : World) {t ty e : TypeId} {i : TypeInfo} {z : Value} (hu : P.underlying t = some (.slice e)) (hi : P.info? e = some i) (hz : i.zero = some z) (hzc : z.cells.size = i.size) (h1 : ∀ u ∈ z.cells.toList, u.oneCell' = true)
    {g o : Nat} {T : TypeId} {arr : Array Value} (hg : w.heap[g]? = some (.cells arr T (0, 0))) (n c : Nat) (hn : 0 < n) (hl : o + n * i.size ≤ arr.size) :
    (Builtin.clear_ #[t] ty #[.slice (some ⟨g, o, none⟩) n c]).run P w = .ok (.tuple #[]) (w.setRow g (spl arr o (Builtin.zeroCells z.cells n).toList)) := by
  have hst := run_storeCells_at P g o T (Builtin.zeroCells z.cells n).toList 0 arr w hg (by simp only [Array.length_toList, size_zeroCells, hzc]; omega) (zeroCells_mem h1)
  simp only [Nat.add_zero] at hst
  obtain ⟨m, rfl⟩ : ∃ m, n = m + 1 := ⟨n - 1, by omega⟩
  simp [Builtin.clear_, run_underlying hu, zeroValue, typeInfo, hi, hz, hst, spl]
theorem SCall.of_delete {f : FuncId} {e tS : TypeId} {ie : TypeInfo} {z : Value} {sz : Nat} (hi : P.info? e = some ie) (hsz : ie.size = sz) (h0 : 0 < sz) (hz : ie.zero = some z) (hzc : z.cells.size = sz) (h1 : ∀ u ∈ z.cells.toList, u.oneCell' = true)
    (uS : P.underlying tS = some (.slice e))
    (Hd : ∀ (g n c i j : Nat) (A : Addr) (w w1 w2 : World), i < j → j ≤ n → n ≤ c → c ≤ 9223372036854775807 → (if c = j then (some ⟨g, 0, none⟩ : Option Addr) else some ⟨g, j * sz, none⟩) = some A →
      (∀ ty, (Builtin.append_ #[tS, tS] ty #[.slice (some ⟨g, 0, none⟩) i c, .slice (some A) (n - j) (c - j)]).run P w.drew = .ok (.slice (some ⟨g, 0, none⟩) (i + (n - j)) c) w1) →
      (∀ ty, (Builtin.clear_ #[tS] ty #[.slice (some ⟨g, (i + (n - j)) * sz, none⟩) (n - (i + (n - j))) (c - (i + (n - j)))]).run P w1 = .ok (.tuple #[]) w2) →
      Calls P f #[.slice (some ⟨g, 0, none⟩) n c, .int .i64 i, .int .i64 j] w fun e w' => e = .returned (.slice (some ⟨g, 0, none⟩) (i + (n - j)) c) ∧ w' = w2)
    (i j n : Nat) (fl : Bool) (cs : List IV) (hij : i < j) (hj : j ≤ n) :
    SCall P f [.own e n fl cs, .v (.int .i64 i), .v (.int .i64 j)] (.own e (i + (n - j)) fl (cs.take (i * sz) ++ cs.drop (j * sz))) [.gone, .v (.int .i64 i), .v (.int .i64 j)] := by
  subst hsz
  intro w R vals os hB hdis hRlt hRos
  unfold BRl at hB
  obtain ⟨y0, ys, o1, o2, rfl, b0, hB, rfl⟩ := hB
  unfold BRl at hB
  obtain ⟨yi, ys2, o3, o4, rfl, bi, hB, rfl⟩ := hB
  unfold BRl at hB
  obtain ⟨yj, ys3, o5, o6, rfl, bj, hB, rfl⟩ := hB
  unfold BRl at hB
  obtain ⟨rfl, rfl⟩ := hB
  unfold BR at b0 bi bj
  obtain ⟨rfl, rfl⟩ := bi
  obtain ⟨rfl, rfl⟩ := bj
  obtain ⟨s0, ⟨j0, q1, q2, q4⟩, hfl0, b0⟩ := b0
  rw [hi] at q1; cases q1
  subst q2
  have hinfo : ∃ i, P.info? e = some i ∧ i.size = ie.size ∧ 0 < ie.size := ⟨ie, hi, rfl, h0⟩
  have hfl : fl = true → ∀ x ∈ cs.take (i * ie.size) ++ cs.drop (j * ie.size), ∃ z, x = .v z := fun hf x hx => by
    simp only [List.mem_append] at hx
    rcases hx with hx | hx
    · exact hfl0 hf x (List.mem_of_mem_take hx)
    · exact hfl0 hf x (List.mem_of_mem_drop hx)
  rcases b0 with ⟨h, _⟩ | ⟨us, g, c, rfl, ⟨l0, hown0⟩, t0, rfl⟩
  · omega
  rcases hown0 with ⟨h, _⟩ | ⟨g', cap', cur, e4, _, hg, n1, n2, n3, hus⟩
  · cases h
  cases e4
  have hA : ∀ w' y0, BRl P R w' [.gone, .v (.int .i64 i), .v (.int .i64 j)] [y0, .int .i64 i, .int .i64 j] [] := fun w' y0 => by
    unfold BRl
    refine ⟨y0, _, [], [], rfl, by unfold BR; rfl, ?_, rfl⟩
    unfold BRl
    refine ⟨_, _, [], [], rfl, by unfold BR; exact ⟨rfl, rfl⟩, ?_, rfl⟩
    unfold BRl
    refine ⟨_, _, [], [], rfl, by unfold BR; exact ⟨rfl, rfl⟩, ?_, rfl⟩
    unfold BRl
    exact ⟨rfl, rfl⟩
  have hnc := Nat.mul_le_mul_right ie.size n1
  have hil := Nat.mul_le_mul_right ie.size (show i ≤ n by omega)
  have hjl := Nat.mul_le_mul_right ie.size hj
  have hsub : (n - j) * ie.size = n * ie.size - j * ie.size := Nat.sub_mul _ _ _
  have hin : (i + (n - j)) * ie.size = i * ie.size + (n - j) * ie.size := Nat.add_mul _ _ _
  have hrs : (n - (i + (n - j))) * ie.size = n * ie.size - (i + (n - j)) * ie.size := Nat.sub_mul _ _ _
  have hij' := Nat.mul_le_mul_right ie.size (show i ≤ j by omega)
  have hul : (us.drop (j * ie.size)).length = (n - j) * ie.size := by rw [List.length_drop, l0, hsub]
  have huc : ∀ (k : Nat) (v : Value), us[k]? = some v → cur[k]? = some v := fun k v hk => by
    rw [← hus, List.getElem?_take] at hk
    split at hk
    · simpa using hk
    · cases hk
  have hos : ∀ k, Owns ([OwnR.blk g] ++ ([] ++ ([] ++ []))) g k := fun k => ⟨.blk g, by simp, rfl⟩
  have h1u : ∀ v ∈ us.drop (j * ie.size), v.oneCell' = true := fun v hv => t0.one v (List.mem_of_mem_drop hv)
  obtain ⟨A, hAe, hsrc⟩ : ∃ A : Addr, (if c = j then (some ⟨g, 0, none⟩ : Option Addr) else some ⟨g, j * ie.size, none⟩) = some A ∧ Src P w.drew tS (.slice (some A) (n - j) (c - j)) (n - j) ie.size (us.drop (j * ie.size)) := by
    by_cases h : c = j
    · have hnil : us.drop (j * ie.size) = [] := List.eq_nil_of_length_eq_zero (by
        rw [hul, show n - j = 0 by omega, Nat.zero_mul])
      exact ⟨_, if_pos h, src_slice uS hul h1u (.inl hnil)⟩
    · exact ⟨_, if_neg h, src_slice uS hul h1u (.inr ⟨g, j * ie.size, rfl, fun k v hk => (cell_of_row w.drew g _ cur _ _ hg).trans (huc _ v (by rwa [List.getElem?_drop] at hk))⟩)⟩
  have f1 : i * ie.size + (us.drop (j * ie.size)).length ≤ cur.size := by rw [hul, n3]; omega
  have s1 := spl_size _ _ _ f1
  have hg1 := setRow_heap w.drew g cur (spl cur (i * ie.size) (us.drop (j * ie.size))) _ _ hg
  have zl : (Builtin.zeroCells z.cells (n - (i + (n - j)))).toList.length = (n - (i + (n - j))) * ie.size := by rw [Array.length_toList, size_zeroCells, hzc]
  have f2 : (i + (n - j)) * ie.size + (n - (i + (n - j))) * ie.size ≤ (spl cur (i * ie.size) (us.drop (j * ie.size))).size := by rw [s1, n3]; omega
  refine (Hd g n c i j A w _ _ hij hj n1 (by simp only [maxLen] at n2; omega) hAe (fun ty => ?_) (fun ty => run_clearR _ uS hi hz hzc h1 hg1 _ _ (by omega) f2)).mono ?_
  · rw [run_append_in (ty := ty) uS hi hsrc (by omega)]
    have hst := run_storeCells_at P g (i * ie.size) e (us.drop (j * ie.size)) 0 cur w.drew hg (by simpa using f1) h1u
    simp only [Nat.add_zero] at hst
    simp only [Addr.add_lit, Nat.zero_add, hst, Result.andThen_ok]
    rfl
  · rintro e' w' ⟨rfl, rfl⟩
    have f2' : (i + (n - j)) * ie.size + (Builtin.zeroCells z.cells (n - (i + (n - j)))).toList.length ≤ (spl cur (i * ie.size) (us.drop (j * ie.size))).size := by rw [zl]; exact f2
    refine row_out hinfo hfl (((Fr.drew w _).trans (spl_fr (w := w.drew) hg _ _ f1 hos) fun _ _ h => .inl h).trans (spl_fr hg1 _ _ f2' hos) fun _ _ h => .inl h) hRlt hRos (setRow_heap _ g _ _ _ _ hg1) (by omega) n2 (by rw [spl_size _ _ _ f2', s1, n3]) ?_ (.inl (by simp)) (hA _ _)
    have e2 : (spl (spl cur (i * ie.size) (us.drop (j * ie.size))) ((i + (n - j)) * ie.size) (Builtin.zeroCells z.cells (n - (i + (n - j)))).toList).toList.take ((i + (n - j)) * ie.size) = us.take (i * ie.size) ++ us.drop (j * ie.size) := by
      refine List.ext_getElem? fun k => ?_
      rw [List.getElem?_take, Array.getElem?_toList, spl_get _ _ _ f2', spl_get _ _ _ f1, hul, zl, List.getElem?_append, List.length_take, l0, Nat.min_eq_left hil, List.getElem?_take, List.getElem?_drop]
      by_cases c1 : k < i * ie.size
      · rw [if_pos (by omega), if_neg (by omega), if_neg (by omega), if_pos c1, if_pos c1, ← hus, List.getElem?_take, if_pos (by omega), Array.getElem?_toList]
      · by_cases c2 : k < (i + (n - j)) * ie.size
        · rw [if_pos c2, if_neg (by omega), if_pos (by omega), if_neg c1]
        · rw [if_neg c2, if_neg c1]
          exact (List.getElem?_eq_none (by omega)).symm
    rw [e2]
    exact (t0.take _).append (t0.drop _)
end
end Go.Lift
/- An empty slice in what is handed over may be taken for a row of no element: a contract for the latter is one for the former. -/
namespace Go.Lift
open Go Go.RowKit

mutual
def deE : IV → IV
  | .emp => .tr 0 []
  | .tr n cs => .tr n (deEl cs)
  | .agg cs => .agg (deEl cs)
  | x => x
def deEl : List IV → List IV
  | [] => []
  | x :: xs => deE x :: deEl xs
end
theorem deE_free {x : IV} (h : idFree x = true) : idFree (deE x) = true := by
  cases x <;> simp [idFree] at h <;> simp [deE, idFree]
mutual
theorem TR.deE {R : Nat → Prop} {w : World} : ∀ (x : IV) (y : Value), TR R w x y → TR R w (deE x) y
  | .v x, y, h => h
  | .emp, y, h => by
    unfold TR at h
    obtain ⟨a, rfl⟩ := h
    unfold Lift.deE TR
    exact ⟨a, 0, rfl, Nat.le_refl _, .inl rfl⟩
  | .tr n cs, y, h => by
    unfold TR at h
    unfold Lift.deE TR
    obtain ⟨a, c, h1, h2, h3⟩ := h
    refine ⟨a, c, h1, h2, h3.imp (fun e => by subst e; simp [deEl]) ?_⟩
    rintro ⟨b, o, e, hb, hm⟩
    exact ⟨b, o, e, hb, TRm.deE cs b o hm⟩
  | .agg cs, y, h => by
    unfold TR at h
    unfold Lift.deE TR
    obtain ⟨arr, h1, h2⟩ := h
    exact ⟨arr, h1, TRl.deE cs arr.toList h2⟩
  | .rp _ _, y, h => by unfold TR at h; exact h.elim
  | .sl _ _ _ _, y, h => by unfold TR at h; exact h.elim
  | .ptr _ _ _, y, h => by unfold TR at h; exact h.elim
  | .tup _, y, h => by unfold TR at h; exact h.elim
  | .fn _ _, y, h => by unfold TR at h; exact h.elim
  | .own _ _ _ _, y, h => by unfold TR at h; exact h.elim
  | .obj _, y, h => by unfold TR at h; exact h.elim
  | .ago _, y, h => by unfold TR at h; exact h.elim
  | .gone, y, h => by unfold TR at h; exact h.elim
theorem TRl.deE {R : Nat → Prop} {w : World} : ∀ (xs : List IV) (ys : List Value), TRl R w xs ys → TRl R w (deEl xs) ys
  | [], ys, h => by unfold TRl at h; subst h; unfold deEl TRl; rfl
  | x :: xs, ys, h => by
    unfold TRl at h
    obtain ⟨y, ys', h1, ⟨h2, h3⟩, h4⟩ := h
    unfold deEl TRl
    exact ⟨y, ys', h1, ⟨TR.deE x y h2, h3⟩, TRl.deE xs ys' h4⟩
theorem TRm.deE {R : Nat → Prop} {w : World} : ∀ (xs : List IV) (b o : Nat), TRm R w xs b o → TRm R w (deEl xs) b o
  | [], b, o, h => by unfold deEl TRm; trivial
  | x :: xs, b, o, h => by
    unfold TRm at h
    obtain ⟨⟨y, h1, h2, h3⟩, h4⟩ := h
    unfold deEl TRm
    exact ⟨⟨y, h1, TR.deE x y h2, h3⟩, TRm.deE xs b (o + 1) h4⟩
end
end Go.Lift
/- An empty slice in what is handed over to be read may be taken for a row of no element, whatever else is handed over. -/
namespace Go.Lift
open Go Go.RowKit

def deA (A : List IV) : List IV := A.map fun x => if idFree x = true then deE x else x
theorem BR.deA {P : Program} {R : Nat → Prop} {w : World} {x : IV} {y : Value} {os : List OwnR} (h : BR P R w x y os) : BR P R w (if idFree x = true then deE x else x) y os := by
  by_cases hf : idFree x = true
  · rw [if_pos hf]
    obtain ⟨h1, rfl⟩ := BR_free' hf h
    exact BR_of_TR (deE_free hf) (TR.deE x y h1)
  · rw [if_neg hf]; exact h
theorem BRl.deA {P : Program} {R : Nat → Prop} {w : World} : ∀ {xs : List IV} {ys : List Value} {os : List OwnR}, BRl P R w xs ys os → BRl P R w (Lift.deA xs) ys os
  | [], _, _, h => h
  | x :: xs, ys, os, h => by
    unfold BRl at h
    obtain ⟨y, ys', o1, o2, rfl, h1, h2, rfl⟩ := h
    show BRl P R w ((if idFree x = true then deE x else x) :: Lift.deA xs) _ _
    unfold BRl
    exact ⟨y, ys', o1, o2, rfl, BR.deA h1, BRl.deA h2, rfl⟩
theorem SCall.weakAE {P : Program} {f : FuncId} (A : List IV) {A' : List IV} {r : IV} (h : SCall P f (deA A) r A') : SCall P f A r A' :=
  fun w R vals os hB hd hlt hno => h w R vals os (BRl.deA hB) hd hlt hno
end Go.Lift
/- What a handed variable holds to be read may be left unread: a contract for whatever value it holds. -/
namespace Go.Lift
open Go Go.RowKit

theorem SCallF.opq {G : List (Nat × List IV)} {P : Program} {f : FuncId} {fs : List (Option (FuncId × Nat))} {a a' x r : IV} (hx : idFree x = true) (h : ∀ y : Value, SCallF G P f fs [a, .obj [.v y]] r [a', .obj [.v y]]) :
    SCallF G P f fs [a, .obj [x]] r [a', .obj [x]] := by
  intro w R vals os hB hd hlt hno hG
  unfold BRl BRl BRl at hB
  obtain ⟨y1, ys, o1, o2, rfl, h1, ⟨y2, ys2, o3, o4, rfl, h2, ⟨rfl, rfl⟩, rfl⟩, rfl⟩ := hB
  unfold BR at h2
  obtain ⟨g, d, arr, T, os', rfl, e1, e2, e3, e4, rfl⟩ := h2
  unfold BRl BRl at e3
  obtain ⟨yv, ys3, o5, o6, e5, e6, ⟨rfl, rfl⟩, rfl⟩ := e3
  obtain ⟨e7, rfl⟩ := BR_free' hx e6
  have hB2 : BRl P R w [a, .obj [.v yv]] [y1, .pointer (some ⟨g, d, none⟩)] (o1 ++ ((.rng g d [x].length :: ([] ++ [])) ++ [])) := by
    unfold BRl BRl BRl
    refine ⟨_, _, _, _, rfl, h1, ⟨_, _, _, _, rfl, ?_, ⟨rfl, rfl⟩, rfl⟩, rfl⟩
    unfold BR
    refine ⟨g, d, arr, T, [] ++ [], rfl, e1, e2, ?_, e4, rfl⟩
    unfold BRl BRl
    exact ⟨yv, [], [], [], e5, by unfold BR; exact ⟨rfl, rfl⟩, ⟨rfl, rfl⟩, rfl⟩
  refine (h yv w R _ _ hB2 hd hlt hno hG).mono ?_
  rintro e w' ⟨v, R', q1, q2, rfl, r1, r2, r3, r4, r5, r6, r7, r8⟩
  refine ⟨v, R', q1, q2, rfl, r1, ?_, r3, r4, r5, r6, r7, r8⟩
  unfold BRl BRl BRl at r2
  obtain ⟨z1, zs, p1, p2, hz, k1, ⟨z2, zs2, p3, p4, hz2, k2, ⟨k3, k4⟩, k5⟩, k6⟩ := r2
  unfold BR at k2
  obtain ⟨g', d', arr', T', os2, f1, f2, f3, f4, f5, f6⟩ := k2
  unfold BRl BRl at f4
  obtain ⟨u, us, p5, p6, f7, f8, ⟨f9, f10⟩, f11⟩ := f4
  unfold BR at f8
  obtain ⟨rfl, rfl⟩ := f8
  have hw : HeapEq R w w' := fun b hb => r8.hblk b (hlt b hb) fun o ho => hno b o hb ho
  unfold BRl BRl BRl
  refine ⟨z1, zs, p1, p2, hz, k1, ⟨z2, zs2, p3, p4, hz2, ?_, ⟨k3, k4⟩, k5⟩, k6⟩
  unfold BR
  refine ⟨g', d', arr', T', os2, f1, f2, f3, ?_, f5, f6⟩
  unfold BRl BRl
  exact ⟨u, us, [], p6, f7, BR_of_TR hx (TR.mono r4 hw _ _ e7), ⟨f9, f10⟩, f11⟩
end Go.Lift
/- 'clear' of a slice of a row of the call's own; a row cut off behind some elements. -/
namespace Go.Lift
open Go Go.RowKit
section
variable {P : Program} {TT : TTab} {fx : Fx} {cx : Cx} {σ : St} {a : Act} {w : World} {o : Oper} {K : St → Prop} {next : Act → World → Prop} {Q : Exit → Act → World → Prop}

theorem zOk.len : ∀ {zs : List ZC} {ys : List Value}, zOk zs ys → ys.length = zs.length
  | [], ys, h => by unfold zOk at h; subst h; rfl
  | z :: zs, ys, h => by
    unfold zOk at h
    obtain ⟨y, ys', rfl, _, h2⟩ := h
    simp [zOk.len h2]
theorem zrow_TRl {R : Nat → Prop} {w : World} {zs : List ZC} {cs : Array Value} (hz : zOk zs cs.toList) (h0 : 0 < zs.length) (n : Nat) : TRl R w (zrow zs n) (Builtin.zeroCells cs n).toList := by
  have hl := hz.len
  simp only [Array.length_toList] at hl
  have hl2 : (zs.map ZC.iv).length = zs.length := by simp
  refine TRl.of_get ?_ fun i x y hx hy => ?_
  · rw [Array.length_toList, size_zeroCells, hl]
    unfold zrow
    rw [List.length_flatten, List.map_replicate, List.sum_replicate_nat, hl2]
  · unfold zrow at hx
    rw [replicate_flatten_get _ (by rw [hl2]; exact h0), hl2] at hx
    split at hx
    · obtain ⟨y', g1, g2, g3⟩ := zOk.get (R := R) (w := w) hz _ _ hx
      have hc : 0 < cs.size := by omega
      have e : (Builtin.zeroCells cs n).toList[i]? = some cs[i % cs.size]! := by
        have hlt : i < (Builtin.zeroCells cs n).size := by rw [size_zeroCells, hl]; omega
        rw [Array.getElem?_toList, Array.getElem?_eq_getElem hlt]
        simp [Builtin.zeroCells]
      rw [e] at hy
      cases hy
      rw [← hl, Array.getElem?_toList, Array.getElem?_eq_getElem (Nat.mod_lt _ hc)] at g1
      cases g1
      rw [getElem!_pos cs _ (Nat.mod_lt _ hc)]
      exact ⟨g2, g3⟩
    · cases hx
theorem run_clear0 (w : World) {t ty e : TypeId} {i : TypeInfo} {z : Value} (hu : P.underlying t = some (.slice e)) (hi : P.info? e = some i) (hz : i.zero = some z) (ad : Option Addr) (c : Nat) : (Builtin.clear_ #[t] ty #[.slice ad 0 c]).run P w = .ok (.tuple #[]) w := by
  cases ad <;> simp [Builtin.clear_, run_underlying hu, zeroValue, typeInfo, hi, hz, Builtin.zeroCells, storeCells]
theorem clear_step {c : Call} {t e : TypeId} {it ie : TI} {k ver off n : Nat} {b : Blk} (htt : TTok P TT) (ho : o.op = .call c) (hcb : c.callee = .builtin .clear) (hs : Sim P fx cx σ a w) (hts : c.argTypes.toList = [t])
    (hx : evs σ c.args.toList = some [.sl k ver off n]) (h1 : TT t = some it) (hd : it.desc = .slice e) (he : TT e = some ie) (hb : blkAt σ.L k ver = some b)
    (c1 : b.frz = false ∧ b.row = true ∧ b.t = e ∧ off + n ≤ b.n) (c2 : b.fl = true → (zrow ie.zero n).all isV = true)
    (hK : fin o σ (.tup []) (σ.L.set k (some { b with cs := putAt b.cs (off * ie.size) (zrow ie.zero n) })) K) (hn : Nx P fx cx K next) : o.wp P a w next Q := by
  obtain ⟨g1, g2, g3, g5⟩ := c1
  have hi := htt _ _ he
  obtain ⟨j, hj, hj2, hj3, zv, hz1, hz2⟩ := hi.info
  have hzl : zv.cells.size = ie.size := by have := hz2.len; rw [hi.zlen] at this; simpa using this
  have hv := evs_sound hs.s hx
  obtain ⟨y1, ys, e1, v1, v2⟩ : ∃ y1 ys, c.args.toList.map a.eval = y1 :: ys ∧ VX cx w (.sl k ver off n) y1 ∧ VXl cx w [] ys := by unfold VXl at hv; exact hv
  have e3 : ys = [] := by unfold VXl at v2; exact v2
  subst e3
  have hargs : c.args.map a.eval = #[y1] := by
    apply Array.ext'
    simpa using e1
  have hat : c.argTypes = #[t] := by rw [← Array.toArray_toList (xs := c.argTypes), hts]
  obtain ⟨p, q1, q2, q3⟩ := hs.m.atv hb
  obtain ⟨_, q3⟩ : b.row = true ∧ RowOk P cx w p b := by
    rcases q3 with h | ⟨hr, _⟩
    · exact h
    · rw [hr] at g2; cases g2
  obtain ⟨j', hj', hsz, hpos⟩ := q3.info
  rw [g3, hj] at hj'; cases hj'
  have hpsz : p.sz = ie.size := by rw [← hsz, hj2]
  obtain ⟨cs', hex⟩ := exec_builtin (a := a) ho hcb
  unfold VX at v1
  obtain ⟨p', r1, r2⟩ := v1
  rw [q2] at r1; cases r1
  have hu := slice_under (htt _ _ h1) hd
  have hzt := zrow_TRl (R := cx.R) (w := w) hz2 (by rw [hi.zlen]; exact hi.pos) n
  have h1c : ∀ u ∈ zv.cells.toList, u.oneCell' = true := fun u hu => by
    obtain ⟨i, hi', he'⟩ := List.getElem_of_mem hu
    have hil : i < (ie.zero.map ZC.iv).length := by have := hz2.len; simp at this ⊢; simp at hi'; omega
    obtain ⟨y, k1, _, k3⟩ := zOk.get (R := cx.R) (w := w) hz2 i _ (List.getElem?_eq_getElem hil)
    rw [List.getElem?_eq_getElem hi', he'] at k1
    cases k1; exact k3
  have main : ∃ w', (Builtin.clear_ c.argTypes o.type (c.args.map a.eval)).run P w = .ok (.tuple #[]) w' ∧ Mem P fx cx { σ with L := σ.L.set k (some { b with cs := putAt b.cs (off * ie.size) (zrow ie.zero n) }) } w' ∧ HeapEq cx.R w w' := by
    rw [hargs, hat]
    rcases Nat.eq_zero_or_pos n with hn0 | hn0
    · subst hn0
      have hset : σ.L.set k (some { b with cs := putAt b.cs (off * ie.size) (zrow ie.zero 0) }) = σ.L := by
        have e0 : putAt b.cs (off * ie.size) (zrow ie.zero 0) = b.cs := by unfold zrow; rfl
        rw [e0]
        have hk := (blkAt_some hb).1
        exact List.ext_getElem? fun i => by
          rw [List.getElem?_set]
          split
          · rename_i e; subst e
            rw [if_pos (List.getElem?_eq_some_iff.1 hk).1]; exact hk.symm
          · rfl
      rw [hset]
      refine ⟨w, ?_, hs.m.sameL rfl, HeapEq.refl _ _⟩
      rcases r2 with ⟨_, ⟨ad, rfl⟩, _, _⟩ | ⟨g, mm, cap, ad, _, rfl, _⟩
      · exact run_clear0 w hu hj hz1 _ _
      · exact run_clear0 w hu hj hz1 _ _
    · rcases r2 with ⟨_, _, _, h0⟩ | ⟨g, mm, cap, ad, r3, rfl, r4, r5⟩
      · omega
      · have had := r5 (.inl hn0)
        subst had
        rcases q3.v with ⟨w1, _, _⟩ | ⟨g', cap', cur, w1, w2, w3, w4, w5, w6, w7⟩
        · rw [r3] at w1; cases w1
        · rw [r3] at w1
          cases w1
          have hzn : (Builtin.zeroCells zv.cells n).toList.length = n * p.sz := by rw [Array.length_toList, size_zeroCells, hzl, hpsz]
          have hle : off * p.sz + (Builtin.zeroCells zv.cells n).toList.length ≤ b.n * p.sz := by
            rw [hzn, ← Nat.add_mul]
            exact Nat.mul_le_mul_right _ (by omega)
          have hcapsz : b.n * p.sz ≤ cur.size := by rw [w5]; exact Nat.mul_le_mul_right _ w3
          have hrun := run_clearR (ty := o.type) w hu hj hz1 (by rw [hzl, hj2]) h1c w2 (o := off * p.sz) n (cap - off) hn0 (by rw [hsz, ← hzn]; omega)
          obtain ⟨m1, m2⟩ := row_write (ver := ver) hs.m q1 g1 g2 q3 (show p.v = .slice (some ⟨g, 0, none⟩) b.n cap from r3) w2 w3 w4 w5 hzt hle (fun hf => all_isV (c2 hf))
          rw [hpsz] at m1 m2
          rw [hpsz] at hrun
          exact ⟨_, by rw [hpsz]; exact hrun, m1, m2⟩
  obtain ⟨w', hr, m1, m2⟩ := main
  exact fin_sound hs.s (y := .tuple #[]) (by rw [hex]; simp [builtin, hr]) (Cx.le_refl cx) m1 m2 (by simp [VX, VXl]) hK hn
theorem IL.clearT (htt : TTok P TT) {ops : Array Oper} {l : List Oper} {σ' : St} {c : Call} {t e : TypeId} {it ie : TI} {k ver off n : Nat} {b : Blk} (hr : IL P fx ops l K σ') (hg : Gok ops σ o) (ho : o.op = .call c) (hcb : c.callee = .builtin .clear) (hts : c.argTypes.toList = [t])
    (hx : evs σ c.args.toList = some [.sl k ver off n]) (h1 : TT t = some it) (hd : it.desc = .slice e) (he : TT e = some ie) (hb : blkAt σ.L k ver = some b)
    (c1 : b.frz = false ∧ b.row = true ∧ b.t = e ∧ off + n ≤ b.n) (c2 : b.fl = true → (zrow ie.zero n).all isV = true)
    (hK : ∀ K : St → Prop, K σ' → fin o σ (.tup []) (σ.L.set k (some { b with cs := putAt b.cs (off * ie.size) (zrow ie.zero n) })) K) : IL P fx ops (o :: l) K σ :=
  IL.ok hg fun _ _ _ _ _ hs hn => clear_step htt ho hcb hs hts hx h1 hd he hb c1 c2 (hK _ hr) fun σ1 cx' a' w' hK _ hs' => hn σ1 cx' a' w' hK hs'
theorem Weak.cutRow (htt : TTok P TT) {k d i : Nat} {b : Blk} {ti : TI} (hb : σ.L[k]? = some (some b)) (hr : b.row = true) (hz : b.frz = false) (hd : lk σ.T d = some (.sl k b.ver 0 i)) (hi : i ≤ b.n) (ht : TT b.t = some ti) :
    Weak P fx σ ⟨σ.N, (d, .sl k (b.ver + 1) 0 i) :: σ.T, σ.L.set k (some { b with n := i, cs := b.cs.take (i * ti.size), ver := b.ver + 1 })⟩ := by
  intro cx a w hs
  obtain ⟨p, ha, hok⟩ := hs.m.at hb
  obtain ⟨_, q3⟩ : b.row = true ∧ RowOk P cx w p b := by
    rcases hok with h | ⟨hr', _⟩
    · exact h
    · rw [hr'] at hr; cases hr
  obtain ⟨j, hj, hsz, hpos⟩ := q3.info
  have hti := htt _ _ ht
  obtain ⟨j', hj', hj2, _⟩ := hti.info
  rw [hj] at hj'; cases hj'
  have hps : p.sz = ti.size := by rw [← hsz, hj2]
  obtain ⟨yd, y1, y2⟩ := hs.s.tmp d _ hd
  unfold VX at y2
  obtain ⟨p0, z1, z2⟩ := y2
  rw [ha.2] at z1; cases z1
  obtain ⟨p', hp'⟩ : ∃ p' : Plc, p'.sz = p.sz ∧ (∃ cs0 : List IV, cs0 = b.cs.take (i * ti.size) ∧ RowOk P cx w p' { b with n := i, cs := cs0, ver := b.ver + 1 }) ∧ SLr p' 0 i yd ∧ (∀ c : Blk, c.rng p' = c.rng p ∨ c.row = false) ∧ ({ b with n := i, cs := b.cs.take (i * ti.size), ver := b.ver + 1 } : Blk).rng p' = b.rng p := by
    rcases q3.v with ⟨w1, w2, w3⟩ | ⟨g, cap, cur, w1, w2, w3, w4, w5, w6, w7⟩
    · obtain rfl : i = 0 := by omega
      refine ⟨p, rfl, ⟨_, rfl, ⟨⟨[], ⟨by simp, .inl ⟨w1, rfl⟩⟩, by rw [w3]; simp [TRl]⟩, ⟨j, hj, hsz, hpos⟩, fun _ x hx => by rw [w3] at hx; simp at hx⟩⟩, z2, fun c => .inl rfl, by simp [Blk.rng, w1]⟩
    · have hle := Nat.mul_le_mul_right p.sz hi
      have hcs : b.n * p.sz ≤ cur.size := by rw [w5]; exact Nat.mul_le_mul_right _ w3
      refine ⟨⟨.slice (some ⟨g, 0, none⟩) i cap, p.sz⟩, rfl, ⟨_, rfl, ⟨⟨cur.toList.take (i * p.sz), ⟨?_, .inr ⟨g, cap, cur, rfl, Nat.zero_le _, w2, Nat.le_trans hi w3, w4, w5, rfl⟩⟩, ?_⟩, ⟨j, hj, hsz, hpos⟩, fun hf x hx => q3.flat hf x (List.mem_of_mem_take hx)⟩⟩, ?_, fun c => ?_, ?_⟩
      · rw [List.length_take, Array.length_toList]; exact Nat.min_eq_left (Nat.le_trans hle hcs)
      · rw [← hps]
        have h3 := w6.take (i * p.sz)
        rwa [List.take_take, Nat.min_eq_left hle] at h3
      · rcases z2 with ⟨u1, _⟩ | ⟨g', m', cap', ad, u1, u2, u3, u4⟩
        · rw [w1] at u1; cases u1
        · rw [w1] at u1; cases u1
          exact .inr ⟨g, i, cap, ad, rfl, u2, u3, u4⟩
      · exact .inl (by simp [Blk.rng, w1])
      · simp [Blk.rng, w1]
  obtain ⟨s1, ⟨cs0, rfl, s2⟩, s3, _, s5⟩ := hp'
  have hnone : cx.pl k (b.ver + 1) = none := by
    cases hq : cx.pl k (b.ver + 1) with
    | none => rfl
    | some q => have := (hs.m.plok _ _ _ hq).2 b hb; omega
  have hle : cx.le (cx.add k (b.ver + 1) p') := ⟨(Cx.add_le (.inl hnone)).pl, fun _ h => h⟩
  have hm1 := hs.m.turn ha hz (w' := w) (Fr.refl w _) { b with n := i, cs := b.cs.take (i * ti.size), ver := b.ver + 1 } p' (.inr rfl) cx.R (fun _ h => h) (fun _ h => .inl h) (.inl ⟨hr, by
    obtain ⟨xs, e1, e2⟩ := s2.ex
    exact ⟨⟨xs, e1, e2⟩, s2.info, s2.flat⟩⟩) (by
      rw [s5]
      intro x hx bb oo hh
      exact ⟨.inl ⟨x, hx, hh⟩, fun _ => (hs.m.nor k b p ha x hx bb oo hh).1 hz, fun h => by rw [show ({ b with n := i, cs := b.cs.take (i * ti.size), ver := b.ver + 1 } : Blk).frz = b.frz from rfl, hz] at h; cases h⟩)
  refine ⟨_, hm1.sameL rfl, hs.s.dfr, hs.s.len, fun t x hx => ?_⟩
  by_cases htd : t = d
  · subst htd
    simp only [lk, if_true] at hx
    obtain rfl := Option.some.inj hx
    refine ⟨yd, y1, ?_⟩
    unfold VX
    exact ⟨p', by simp [Cx.add], s3⟩
  · simp only [lk, if_neg htd] at hx
    obtain ⟨y, g1, g2⟩ := hs.s.tmp t x hx
    exact ⟨y, g1, VX.mono hle (fun _ _ => rfl) _ _ g2⟩
end
end Go.Lift
