import Derived.Test.YtclhjcbnpdlgbaaGreatDoorLXCQB
set_option linter.unusedVariables false
set_option linter.unusedSimpArgs false
/- package wire: an envelope that can be, read again from its bytes. -/
namespace Go.Proofs.YtclhjcbnpdlgbaaGreatDoor
open Go Go.Lift
set_option maxHeartbeats 4000000
set_option linter.unusedSimpArgs false
set_option linter.unusedVariables false

theorem depsGo_at : ∀ (rest out : List Vc.Ve) (pre W tail : List UInt8), (∀ x ∈ rest, dbd x) → W = pre ++ (depsB rest ++ tail) → depsGo W rest.length out pre.length 0 = (out ++ rest, (pre ++ depsB rest).length, 0)
  | [], out, pre, W, tail, _, hW => by simp [depsGo, depsB]
  | x :: rest, out, pre, W, tail, hf, hW => by
    obtain ⟨x1, x2⟩ := x
    have hx := hf (x1, x2) (by simp)
    unfold dbd at hx
    simp only at hx
    obtain ⟨a, rfl⟩ := Int.eq_ofNat_of_zero_le hx.1.1
    obtain ⟨b, rfl⟩ := Int.eq_ofNat_of_zero_le hx.2.1
    have hW2 : W = pre ++ (numB a ++ (numB b ++ (depsB rest ++ tail))) := by rw [hW]; simp [depsB, depB]
    have h1 := rN W pre a (numB b ++ (depsB rest ++ tail)) 65535 hW2 (by omega) (by omega)
    have h2 := rN W (pre ++ numB a) b (depsB rest ++ tail) 268435456 (by rw [hW2]; simp) (by omega) (by omega)
    have ih := depsGo_at rest (out ++ [((a : Int), (b : Int))]) (pre ++ numB a ++ numB b) W tail (fun y hy => hf y (by simp [hy])) (by rw [hW2]; simp)
    rw [List.length_cons, depsGo_of h1 h2, if_pos rfl, ih]
    simp [depsB, depB]
theorem rTx_at (pre : List UInt8) (r s c u : Nat) (ops : List OpV) (hr : r ≤ 65535) (hs : s ≤ 268435456) (hc : c ≤ 1099511627776) (hu : u ≤ 7) (hl : ops.length ≤ 16) (ho : ∀ o ∈ ops, goodO o) :
    rTx (pre ++ (hdB r s c u ops.length ++ opsB ops)) pre.length 0 = (⟨r, s, c, u, ops⟩, (pre ++ (hdB r s c u ops.length ++ opsB ops)).length, 0) := by
  have e : pre ++ (hdB r s c u ops.length ++ opsB ops) = pre ++ (numB r ++ numB s ++ numB c ++ numB u ++ numB ops.length ++ opsB ops) := rfl
  generalize pre ++ (hdB r s c u ops.length ++ opsB ops) = W at *
  have h1 := rN W pre r (numB s ++ (numB c ++ (numB u ++ (numB ops.length ++ opsB ops)))) 65535 (by rw [e]; simp) (by omega) hr
  have h2 := rN W (pre ++ numB r) s (numB c ++ (numB u ++ (numB ops.length ++ opsB ops))) 268435456 (by rw [e]; simp) (by omega) hs
  have h3 := rN W (pre ++ numB r ++ numB s) c (numB u ++ (numB ops.length ++ opsB ops)) 1099511627776 (by rw [e]; simp) (by omega) hc
  have h4 := rN W (pre ++ numB r ++ numB s ++ numB c) u (numB ops.length ++ opsB ops) 7 (by rw [e]; simp) (by omega) hu
  have h5 := rN W (pre ++ numB r ++ numB s ++ numB c ++ numB u) ops.length (opsB ops) 16 (by rw [e]; simp) (by omega) hl
  have h6 := opsGo_at ops [] (pre ++ numB r ++ numB s ++ numB c ++ numB u ++ numB ops.length) W ho (by rw [e]; simp)
  rw [rTx_of h1 h2 h3 h4 h5, h6]
  simp [txF]
theorem be4_inv (N : Nat) (h : N < 4294967296) (x y z w : UInt8) (hb : be4 (N : Int) = [x, y, z, w]) : word4 x.toNat y.toNat z.toNat w.toNat = N := by
  rw [← be4_ref N h] at hb
  have h8 : ∀ (M : Nat) (v : UInt8), b8 (M : Int) = v → v.toNat = M % 256 := fun M v hv => by
    have := b8_toNat (M : Int)
    rw [hv] at this
    have e : IntKind.u8.wrap (M : Int) = ((M % 256 : Nat) : Int) := by
      rw [show ((M % 256 : Nat) : Int) = (M : Int) % 256 from by omega]
      rfl
    rw [e] at this
    omega
  have t1 : Int.tdiv (N : Int) 16777216 = ((N / 16777216 : Nat) : Int) := by rw [Int.tdiv_eq_ediv_of_nonneg (by omega)]; omega
  have t2 : Int.tmod (Int.tdiv (N : Int) 65536) 256 = ((N / 65536 % 256 : Nat) : Int) := by rw [Int.tdiv_eq_ediv_of_nonneg (by omega), Int.tmod_eq_emod_of_nonneg (by omega)]; omega
  have t3 : Int.tmod (Int.tdiv (N : Int) 256) 256 = ((N / 256 % 256 : Nat) : Int) := by rw [Int.tdiv_eq_ediv_of_nonneg (by omega), Int.tmod_eq_emod_of_nonneg (by omega)]; omega
  have t4 : Int.tmod (N : Int) 256 = ((N % 256 : Nat) : Int) := by rw [Int.tmod_eq_emod_of_nonneg (by omega)]; omega
  rw [t1, t2, t3, t4] at hb
  simp only [List.cons.injEq, and_true] at hb
  obtain ⟨q1, q2, q3, q4⟩ := hb
  have e1 := h8 _ _ q1
  have e2 := h8 _ _ q2
  have e3 := h8 _ _ q3
  have e4 := h8 _ _ q4
  unfold word4
  omega
theorem sealed_facts (d : List Vc.Ve) (r s c u : Nat) (ops : List OpV) (b : List UInt8) (hb : b = sealB (encB d r s c u ops)) (hl : (bodyB d r s c u ops).length ≤ 300000) :
    b.length = (bodyB d r s c u ops).length + 11 ∧ b.take 3 = [67, 80, 1] ∧ (∀ m x, lenW (b.take (m + 7) ++ x) = b.length) ∧ isSealed b = true ∧ (b.take (b.length - 4)).drop 7 = bodyB d r s c u ops := by
  obtain ⟨s1, s2, s3⟩ := seal_sealed (encB d r s c u ops)
  rw [← hb] at s1 s2 s3
  have hE : (encB d r s c u ops).length = (bodyB d r s c u ops).length + 7 := by unfold encB; simp only [List.length_append, be4_len, List.length_cons, List.length_nil]; omega
  have hlen : b.length = (bodyB d r s c u ops).length + 11 := by omega
  obtain ⟨x, y, z, w, hbe⟩ : ∃ x y z w, be4 (((bodyB d r s c u ops).length + 11 : Nat) : Int) = [x, y, z, w] := ⟨_, _, _, _, rfl⟩
  have hw := be4_inv _ (by omega) x y z w hbe
  have hb2 : ∃ T, b = 67 :: 80 :: 1 :: x :: y :: z :: w :: T := by
    have : encB d r s c u ops = 67 :: 80 :: 1 :: x :: y :: z :: w :: bodyB d r s c u ops := by
      unfold encB
      rw [show (((bodyB d r s c u ops).length : Int) + 11) = (((bodyB d r s c u ops).length + 11 : Nat) : Int) from rfl, hbe]; rfl
    rw [hb, sealB, this]
    exact ⟨_, rfl⟩
  refine ⟨hlen, ?_, ?_, s1, ?_⟩
  · obtain ⟨T, hT⟩ := hb2
    rw [hT]; rfl
  · intro m t
    obtain ⟨T, hT⟩ := hb2
    rw [hlen, ← hw, hT]
    rfl
  · rw [s2]
    have e : encB d r s c u ops = ([67, 80, 1] ++ be4 ((bodyB d r s c u ops).length + 11)) ++ bodyB d r s c u ops := rfl
    rw [e]
    have hl7 : ([67, 80, 1] ++ be4 ((bodyB d r s c u ops).length + 11)).length = 7 := by simp only [List.length_append, be4_len, List.length_cons, List.length_nil]
    rw [← hl7, List.drop_left]
theorem env_good {d : List Vc.Ve} {r s c u : Int} {ops : List OpV} (hw : wfD d) (hr : 0 ≤ r ∧ r ≤ 65535) (hwo : ∀ o ∈ ops, wfC o) (hwr : ∀ o ∈ ops, (0 ≤ o.r ∧ o.r ≤ 65535) ∧ ∀ x ∈ o.s, 0 ≤ x.1 ∧ x.1 ≤ 65535) (hsm : d.length ≤ 100 ∧ smallT ops) (h0 : fit10 d r s c u ops = 0) :
    ∃ a b e f : Nat, r = a ∧ s = b ∧ c = e ∧ u = f ∧ a ≤ 65535 ∧ b ≤ 268435456 ∧ e ≤ 1099511627776 ∧ f ≤ 7 ∧ ops.length ≤ 16 ∧ (∀ o ∈ ops, goodO o) ∧ (∀ x ∈ d, dbd x) ∧ (bodyB d a b e f ops).length ≤ 300000 := by
  obtain ⟨f1, f2, f3⟩ := fit10_ok h0
  obtain ⟨g1, g2, g3, g4, g5, g6, g7, g8, g9⟩ := fit9_ok f3
  obtain ⟨a, rfl⟩ := Int.eq_ofNat_of_zero_le hr.1
  obtain ⟨b, rfl⟩ := Int.eq_ofNat_of_zero_le (show 0 ≤ s by omega)
  obtain ⟨e, rfl⟩ := Int.eq_ofNat_of_zero_le (show 0 ≤ c by omega)
  obtain ⟨f, rfl⟩ := Int.eq_ofNat_of_zero_le (show 0 ≤ u by omega)
  have hgood : ∀ o ∈ ops, goodO o := fun o ho => by
    have h1 := hsm.2.2 o ho
    unfold smallO at h1
    exact goodO_of (hwr o ho).1 (hwo o ho) (hwr o ho).2 (by omega) (g9 o ho)
  refine ⟨a, b, e, f, rfl, rfl, rfl, rfl, by omega, by omega, by omega, by omega, g8, hgood, fun x hx => ?_, ?_⟩
  · have h1 := hw x hx
    have h2 := (Vc.rightB_inv f1).2 x hx
    unfold dbd
    omega
  · have l0 := numB_le 9 d.length (by omega)
    have l1 := numB_le 9 a (by omega)
    have l2 := numB_le 9 b (by omega)
    have l3 := numB_le 9 e (by omega)
    have l4 := numB_le 9 f (by omega)
    have l5 := numB_le 9 ops.length (by omega)
    have l6 := opsB_lenS ops (fun o ho => goodO_ok (hgood o ho)) fun o ho => (hsm.2.2 o ho).2
    have l7 := depsB_len d hw
    unfold bodyB hdB
    simp only [List.length_append]; omega
theorem decode_good (d : List Vc.Ve) (r s c u : Nat) (ops : List OpV) (hd : d.length ≤ 100) (hr : r ≤ 65535) (hs : s ≤ 268435456) (hc : c ≤ 1099511627776) (hu : u ≤ 7) (hl : ops.length ≤ 16) (ho : ∀ o ∈ ops, goodO o) (hdb : ∀ x ∈ d, dbd x) (hlen : (bodyB d r s c u ops).length ≤ 300000)
    (hwo : ∀ o ∈ ops, wfC o) (hsz : ∀ o ∈ ops, o.t.length ≤ 1000 ∧ o.s.length ≤ 1024) (h0 : fit10 d r s c u ops = 0) (b : List UInt8) (hb : b = sealB (encB d r s c u ops)) :
    SCallG GT Tryz.prog 13 [.tr b.length (bcells b)] (.tup [.agg (enT d r s c u ops), .v (.int .i64 0)]) [.tr b.length (bcells b)] := by
  obtain ⟨q1, q2, q3, q4, q5⟩ := sealed_facts d r s c u ops b hb hlen
  have hL : lenW b = b.length := by have := q3 (b.length) []; rwa [List.append_nil, List.take_of_length_le (by omega)] at this
  have hfr := frame_sealed b (by omega) (by omega) q2 hL
  rw [if_pos q4, q5, show b.length - 11 = (bodyB d r s c u ops).length by omega] at hfr
  have hwd : wfD d := fun x hx => by have := hdb x hx; unfold dbd at this; omega
  have hfi := cFit10_call d r s c u ops (by omega) hwd (by omega) (by omega) hsz hwo
  rw [h0] at hfi
  have e : bodyB d r s c u ops = numB d.length ++ (depsB d ++ (hdB r s c u ops.length ++ opsB ops)) := by unfold bodyB; simp
  have hn := rN (bodyB d r s c u ops) [] d.length (depsB d ++ (hdB r s c u ops.length ++ opsB ops)) 65536 (by rw [e]; simp) (by omega) (by omega)
  have hG := depsGo_at d [] (numB d.length) (bodyB d r s c u ops) (hdB r s c u ops.length ++ opsB ops) hdb e
  have hT := rTx_at (numB d.length ++ depsB d) r s c u ops hr hs hc hu hl ho
  rw [← show bodyB d r s c u ops = numB d.length ++ depsB d ++ (hdB r s c u ops.length ++ opsB ops) from rfl] at hT
  have hdec := decode_call b (bodyB d r s c u ops) (by omega) hfr d.length ([] ++ numB d.length).length 0 hn d (numB d.length ++ depsB d).length 0 (by simpa using hG)
    (by rw [e]; simp only [List.length_append]; omega) ⟨r, s, c, u, ops⟩ (bodyB d r s c u ops).length 0 hT (Nat.le_refl _) 0 0 (by rw [if_neg (fun h => Nat.lt_irrefl _ h.2)]) hfi
  rw [if_pos rfl, if_pos rfl] at hdec
  exact SCallG.frz hdec rfl
end Go.Proofs.YtclhjcbnpdlgbaaGreatDoor
/- The document's vectors: With. -/
namespace Go.Proofs.YtclhjcbnpdlgbaaGreatDoor.Vc
open Go Go.Lift
set_option maxHeartbeats 4000000
set_option linter.unusedSimpArgs false
set_option linter.unusedVariables false
attribute [local irreducible] WK IL IP IG IW DW

theorem filt_len (l : List Ve) (p : Ve → Bool) : (l.filter p).length ≤ l.length := List.length_filter_le _ _
theorem filt_snoc (l : List Ve) (x : Ve) (p : Ve → Bool) : (l ++ [x]).filter p = l.filter p ++ (if p x = true then [x] else []) := by rw [List.filter_append]; congr 1; by_cases h : p x = true <;> simp [h]
theorem refWith_call (l : List Ve) (r q : Int) (hn : l.length ≤ 100000) :
    SCall Tryz.prog 54 [.tr l.length (encs veC l), .v (.int .u16 r), .v (.int .u32 q)] (.own 102 (withV l r q).length true (encs veC (withV l r q))) [.tr l.length (encs veC l), .v (.int .u16 r), .v (.int .u32 q)] := by
  refine SCall.of_body' (TT := TT) (fun _ => false) [false, false, false] ttok Tryz.func54 rfl (Nat.le_of_ble_eq_true rfl) rfl fun fx hfx => WK.top ?_
  simp only [impl, imp, argT, List.append_nil, List.map_nil, List.nil_append, show Tryz.f54.ntmps = 59 from rfl, Nat.zero_add, Nat.reduceAdd]
  repeat' (first | refine WK.seq ?_ | refine WK.reg ?_ | refine IL.nil ?_ | refine WK.skip ?_ | refine WK.block ?_ | refine WK.exit_here ?_ | refine WK.e1 ?_ | refine WK.e2 ?_ | (with_reducible refine IL.wr ?_ ?_; focus exact cW) | refine IL.sg ttok ?_ | (refine WK.cn (fun h => ?_) (fun h => ?_); all_goals first | (simp only [reduceCtorEq] at h; done) | (simp only [hsA, hsD, hsE, ne_eq] at h; first | done | (exfalso; omega; done) | skip) | skip))
  refine WK.forS l.length (fun k => True) (fun k => ⟨59, [(0, .tr l.length (encs veC l)), (1, .v (.int .u16 r)), (2, .v (.int .u32 q)), (7, .sl 0 0 0 ((l.take k).filter fun x => decide (x.1 < r)).length), (8, .v (.int .i64 k))], [some ⟨true, 102, ((l.take k).filter fun x => decide (x.1 < r)).length, true, encs veC ((l.take k).filter fun x => decide (x.1 < r)), 0, false⟩]⟩) ⟨trivial, ?_⟩ (fun k hk ho => ?_) (fun ho => ?_)
  · rw [List.take_zero, List.filter_nil]
    (refine Weak.renS [1] hfx rfl ?_ ?_ rfl <;> (simp only [go_sem, reduceIte, exists_eq_left', exists_eq_left, Blk.mk.injEq, List.length_nil, encs_nil] <;> (try and_intros) <;> first | rfl | omega))
  · have hx : l[k]? = some l[k] := List.getElem?_eq_getElem hk
    have hat1 : (encs veC l)[k * 2 + 0]? = some (.v (.int .u16 l[k].1)) := encs_get veC_length hx (by decide)
    rw [Nat.add_zero] at hat1
    have hat : ((encs veC l).drop (k * 2)).take 2 = [.v (.int .u16 l[k].1), .v (.int .u32 l[k].2)] := encs_at veC_length hx
    have hle : k * 2 + 2 ≤ l.length * 2 := by omega
    have hne : encs veC l ≠ [] := encs_ne veC_length (by decide) hx
    have htk : l.take (k + 1) = l.take k ++ [l[k]] := by rw [List.take_add_one, hx]; rfl
    have hlt := filt_len (l.take k) fun x => decide (x.1 < r)
    have hlt2 : (l.take k).length ≤ 100000 := by rw [List.length_take]; omega
    rw [htk, filt_snoc]
    clear htk hx
    generalize l[k] = x at *
    generalize (l.take k).filter (fun x => decide (x.1 < r)) = out at *
    have hsn := encs_snoc (f := veC) out x
    have htq : (encs veC out).take (out.length * 2) = encs veC out := encs_take_all veC_length out
    simp only [veC] at hsn
    have FX := And.intro hat1 (And.intro hat hle)
    repeat' (first | refine WK.seq ?_ | refine WK.reg ?_ | refine IL.nil ?_ | refine WK.skip ?_ | refine WK.block ?_ | refine WK.exit_here ?_ | refine WK.e1 ?_ | refine WK.e2 ?_ | (with_reducible refine IL.wr ?_ ?_; focus exact cW) | refine IL.sgF ttok ?_ | (refine WK.cn (fun h => ?_) (fun h => ?_); all_goals first | (simp only [reduceCtorEq] at h; done) | (simp only [hsA, hsD, hsE, ne_eq] at h; first | done | (exfalso; omega; done) | skip) | skip))
    · rw [if_pos (decide_eq_true h)]
      refine ⟨trivial, ?_⟩
      (refine Weak.renS [0] hfx rfl ?_ ?_ rfl <;> (simp only [go_sem, reduceIte, exists_eq_left', exists_eq_left, Blk.mk.injEq, htq, hsn, List.length_append, List.length_cons, List.length_nil] <;> (try and_intros) <;> first | rfl | omega))
    · rw [if_neg (by simpa using h)]
      refine ⟨trivial, ?_⟩
      (refine Weak.renS [0] hfx rfl ?_ ?_ rfl <;> (simp only [go_sem, reduceIte, exists_eq_left', exists_eq_left, Blk.mk.injEq, List.append_nil] <;> (try and_intros) <;> first | rfl | omega))
  · rw [List.take_length]
    have hl1 := filt_len l fun x => decide (x.1 < r)
    have hw : withV l r q = (l.filter (fun x => decide (x.1 < r)) ++ (if 0 < q then [(r, q)] else [])) ++ l.filter (fun x => decide (r < x.1)) := by unfold withV; rw [List.append_assoc]
    rw [hw]
    generalize l.filter (fun x => decide (x.1 < r)) = o1 at *
    have hsn1 := encs_snoc (f := veC) o1 (r, q)
    have htq1 : (encs veC o1).take (o1.length * 2) = encs veC o1 := encs_take_all veC_length o1
    simp only [veC] at hsn1
    have hcase : (0 < q ∧ o1 ++ [(r, q)] = o1 ++ (if 0 < q then [(r, q)] else [])) ∨ (¬ 0 < q ∧ o1 = o1 ++ (if 0 < q then [(r, q)] else [])) := by
      by_cases hq : 0 < q
      · rw [if_pos hq]; exact .inl ⟨hq, rfl⟩
      · rw [if_neg hq]; exact .inr ⟨hq, (List.append_nil _).symm⟩
    generalize o1 ++ (if 0 < q then [(r, q)] else []) = o2 at *
    have hl2 : o2.length ≤ 100001 := by
      rcases hcase with ⟨_, rfl⟩ | ⟨_, rfl⟩
      · rw [List.length_append, List.length_cons, List.length_nil]; omega
      · omega
    rcases hcase with ⟨hq, he⟩ | ⟨hq, he⟩
    all_goals
      have hln := congrArg List.length he
      have hec := congrArg (encs veC) he
      repeat' (first | refine WK.seq ?_ | refine WK.reg ?_ | refine IL.nil ?_ | refine WK.skip ?_ | refine WK.block ?_ | refine WK.exit_here ?_ | refine WK.e1 ?_ | refine WK.e2 ?_ | (with_reducible refine IL.wr ?_ ?_; focus exact cW) | refine IL.sg ttok ?_ | (refine WK.cn (fun h => ?_) (fun h => ?_); all_goals first | (simp only [reduceCtorEq] at h; done) | (simp only [hsA, hsD, hsE, ne_eq] at h; first | done | (exfalso; omega; done) | skip) | skip))
      refine WK.forS l.length (fun k => True) (fun k => ⟨59, [(0, .tr l.length (encs veC l)), (1, .v (.int .u16 r)), (7, .sl 0 0 0 (o2 ++ (l.take k).filter fun x => decide (r < x.1)).length), (9, .v (.int .i64 k))], [some ⟨true, 102, (o2 ++ (l.take k).filter fun x => decide (r < x.1)).length, true, encs veC (o2 ++ (l.take k).filter fun x => decide (r < x.1)), 0, false⟩]⟩) ⟨trivial, ?_⟩ (fun k hk ho => ?_) (fun ho => ?_)
      · rw [List.take_zero, List.filter_nil, List.append_nil, ← he]
        (refine Weak.renS [0] hfx rfl ?_ ?_ rfl <;> (simp only [go_sem, reduceIte, exists_eq_left', exists_eq_left, Blk.mk.injEq, htq1, hsn1, List.length_append, List.length_cons, List.length_nil] <;> (try and_intros) <;> first | rfl | omega))
      · have hx : l[k]? = some l[k] := List.getElem?_eq_getElem hk
        have hat1 : (encs veC l)[k * 2 + 0]? = some (.v (.int .u16 l[k].1)) := encs_get veC_length hx (by decide)
        rw [Nat.add_zero] at hat1
        have hat : ((encs veC l).drop (k * 2)).take 2 = [.v (.int .u16 l[k].1), .v (.int .u32 l[k].2)] := encs_at veC_length hx
        have hle : k * 2 + 2 ≤ l.length * 2 := by omega
        have hne : encs veC l ≠ [] := encs_ne veC_length (by decide) hx
        have htk : l.take (k + 1) = l.take k ++ [l[k]] := by rw [List.take_add_one, hx]; rfl
        have hlt := filt_len (l.take k) fun x => decide (r < x.1)
        have hlt2 : (l.take k).length ≤ 100000 := by rw [List.length_take]; omega
        have hlt3 : (o2 ++ (l.take k).filter fun x => decide (r < x.1)).length ≤ 200001 := by rw [List.length_append]; omega
        rw [htk, filt_snoc, ← List.append_assoc]
        clear htk hx
        generalize l[k] = x at *
        generalize o2 ++ (l.take k).filter (fun x => decide (r < x.1)) = out at *
        have hsn := encs_snoc (f := veC) out x
        have htq : (encs veC out).take (out.length * 2) = encs veC out := encs_take_all veC_length out
        simp only [veC] at hsn
        have FX := And.intro hat1 (And.intro hat hle)
        repeat' (first | refine WK.seq ?_ | refine WK.reg ?_ | refine IL.nil ?_ | refine WK.skip ?_ | refine WK.block ?_ | refine WK.exit_here ?_ | refine WK.e1 ?_ | refine WK.e2 ?_ | (with_reducible refine IL.wr ?_ ?_; focus exact cW) | refine IL.sgF ttok ?_ | (refine WK.cn (fun h => ?_) (fun h => ?_); all_goals first | (simp only [reduceCtorEq] at h; done) | (simp only [hsA, hsD, hsE, ne_eq] at h; first | done | (exfalso; omega; done) | skip) | skip))
        · rw [if_pos (decide_eq_true h)]
          refine ⟨trivial, ?_⟩
          (refine Weak.renS [0] hfx rfl ?_ ?_ rfl <;> (simp only [go_sem, reduceIte, exists_eq_left', exists_eq_left, Blk.mk.injEq, htq, hsn, List.length_append, List.length_cons, List.length_nil] <;> (try and_intros) <;> first | rfl | omega))
        · rw [if_neg (by simpa using h)]
          refine ⟨trivial, ?_⟩
          (refine Weak.renS [0] hfx rfl ?_ ?_ rfl <;> (simp only [go_sem, reduceIte, exists_eq_left', exists_eq_left, Blk.mk.injEq, List.append_nil] <;> (try and_intros) <;> first | rfl | omega))
      · rw [List.take_length]
        repeat' (first | refine WK.seq ?_ | refine WK.reg ?_ | refine IL.nil ?_ | refine WK.skip ?_ | refine WK.block ?_ | refine WK.exit_here ?_ | refine WK.e1 ?_ | refine WK.e2 ?_ | (with_reducible refine IL.wr ?_ ?_; focus exact cW) | refine IL.sg ttok ?_ | (refine WK.cn (fun h => ?_) (fun h => ?_); all_goals first | (simp only [reduceCtorEq] at h; done) | (simp only [hsA, hsD, hsE, ne_eq] at h; first | done | (exfalso; omega; done) | skip) | skip))
        all_goals try ((first | refine WK.ret ⟨.inr rfl, ?_⟩ | refine ⟨.inl rfl, ?_⟩ | refine ⟨.inl trivial, ?_⟩); refine Fin.o ?_ ?_ (h1 := by first | rfl | (simp only [go_sem, show Tryz.f54.results.toList = [.tmp 6] from rfl, reduceIte] <;> rfl)); rotate_left 1; (focus (first | rfl | skip)); all_goals try with_reducible rfl)
        all_goals skip
end Go.Proofs.YtclhjcbnpdlgbaaGreatDoor.Vc
/- package wire: Ready, Past, Needs, Atom; the document's, too. -/
namespace Go.Proofs.YtclhjcbnpdlgbaaGreatDoor
open Go Go.Lift
set_option maxHeartbeats 4000000
set_option linter.unusedSimpArgs false
set_option linter.unusedVariables false
attribute [local irreducible] WK IL IP IG IW DW

section
variable (d h : List Vc.Ve) (r s c u : Int) (ops : List OpV) (hd : Vc.Vec d) (hh : Vc.Vec h) (hr : 0 ≤ r ∧ r ≤ 65535) (hs : 1 ≤ s ∧ s ≤ 268435456) (ld : d.length ≤ 100) (lh : h.length ≤ 100)
include hd hh hr hs ld lh
theorem ready_call : SCall Tryz.prog 21 [.agg (enT d r s c u ops), .tr h.length (encs Vc.veC h)] (.v (.bool (decide (Vc.getV h r = s - 1) && Vc.covV h d))) [.agg (enT d r s c u ops), .tr h.length (encs Vc.veC h)] := by
  have hcg := Vc.get_call h r hh.s hh.ok.r hr (by omega)
  have hcc := Vc.covers_call h d hh.s hh.ok hd.ok (by omega) (by omega)
  have hw : IntKind.u32.wrap (s - 1) = s - 1 := wrap_u32 (by omega) (by omega)
  by_cases hb : Vc.getV h r = s - 1
  · rw [decide_eq_true hb, Bool.true_and]
    generalize Vc.covV h d = B at *
    generalize Vc.getV h r = g at *
    refine SCall.of_body' (TT := TT) (fun _ => false) [false, false] ttok Tryz.func21 rfl (Nat.le_of_ble_eq_true rfl) rfl fun fx hfx => WK.top ?_
    simp only [impl, imp, argT, List.append_nil, List.map_nil, List.nil_append, show Tryz.f21.ntmps = 21 from rfl, Nat.zero_add, Nat.reduceAdd]
    have FX := hw
    repeat' (first | refine WK.seq ?_ | refine WK.reg ?_ | refine IL.nil ?_ | refine WK.drawnS (id := 1) mixed [] [4, 14] [0, 0, 0, 0, 0, 0, 0, 0, 0, 1, 1, 1, 1, 1, 1, 2, 2] [0, 0, 0, 0, 0, 1, 1, 1, 1, 1, 1, 1, 1, 1, 1, 2, 2] (by decide +kernel) ?_ | refine DW.nil ?_ | (with_reducible refine IL.wr ?_ ?_; focus exact cW) | (with_reducible refine DW.wr ?_ ?_; focus exact cW) | refine IL.sgF ttok ?_ | refine DW.reF ttok ?_ | refine DW.rmF ttok ?_ | refine DW.nn ?_ | refine DW.nb ?_ | refine DW.cSF ttok ent38 [.bor, .bor] true ?_ (hS := by exact hcg) | refine DW.cSF ttok ent55 [.bor, .bor] true ?_ (hS := by exact hcc) | (((first | refine DW.ag (fun h => ?_) (fun h => ?_) | refine DW.ap (fun h => ?_) (fun h => ?_)); (fail_if_success (focus (simp only [reduceCtorEq] at h)))); all_goals first | (simp only [reduceCtorEq] at h; done) | (simp only [hsA, hsD, hsE, ne_eq] at h; first | done | (exfalso; omega; done) | skip) | skip))
    all_goals try ((first | refine WK.ret ⟨.inr rfl, ?_⟩ | refine ⟨.inl rfl, ?_⟩ | refine ⟨.inl trivial, ?_⟩); refine Fin.o ?_ ?_ (h1 := by first | rfl | (simp only [go_sem, show Tryz.f21.results.toList = [.tmp 4] from rfl, reduceIte] <;> rfl)); rotate_left 1; (focus (first | rfl | skip)); all_goals try with_reducible rfl)
    all_goals skip
  · rw [decide_eq_false hb, Bool.false_and]
    have hb2 : (Vc.getV h r == s - 1) = false := by simpa using hb
    generalize Vc.getV h r = g at *
    refine SCall.of_body' (TT := TT) (fun _ => false) [false, false] ttok Tryz.func21 rfl (Nat.le_of_ble_eq_true rfl) rfl fun fx hfx => WK.top ?_
    simp only [impl, imp, argT, List.append_nil, List.map_nil, List.nil_append, show Tryz.f21.ntmps = 21 from rfl, Nat.zero_add, Nat.reduceAdd]
    have FX := And.intro hw hb2
    repeat' (first | refine WK.seq ?_ | refine WK.reg ?_ | refine IL.nil ?_ | refine WK.drawnS (id := 1) mixed [] [4, 14] [0, 0, 0, 0, 0, 0, 0, 0, 0, 1, 1, 1, 1, 1, 1, 2, 2] [0, 0, 0, 0, 0, 1, 1, 1, 1, 1, 1, 1, 1, 1, 1, 2, 2] (by decide +kernel) ?_ | refine DW.nil ?_ | (with_reducible refine IL.wr ?_ ?_; focus exact cW) | (with_reducible refine DW.wr ?_ ?_; focus exact cW) | refine IL.sgF ttok ?_ | refine DW.reF ttok ?_ | refine DW.rmF ttok ?_ | refine DW.nn ?_ | refine DW.nb ?_ | refine DW.cSF ttok ent38 [.bor, .bor] true ?_ (hS := by exact hcg) | refine DW.cSF ttok ent55 [.bor, .bor] true ?_ (hS := by exact hcc) | (((first | refine DW.ag (fun h => ?_) (fun h => ?_) | refine DW.ap (fun h => ?_) (fun h => ?_)); (fail_if_success (focus (simp only [reduceCtorEq] at h)))); all_goals first | (simp only [reduceCtorEq] at h; done) | (simp only [hsA, hsD, hsE, ne_eq] at h; first | done | (exfalso; omega; done) | skip) | skip))
    all_goals try ((first | refine WK.ret ⟨.inr rfl, ?_⟩ | refine ⟨.inl rfl, ?_⟩ | refine ⟨.inl trivial, ?_⟩); refine Fin.o ?_ ?_ (h1 := by first | rfl | (simp only [go_sem, show Tryz.f21.results.toList = [.tmp 4] from rfl, reduceIte] <;> rfl)); rotate_left 1; (focus (first | rfl | skip)); all_goals try with_reducible rfl)
    all_goals skip
theorem refReady_call : SCall Tryz.prog 22 [.agg (enT d r s c u ops), .tr h.length (encs Vc.veC h)] (.v (.bool (decide (Vc.getV h r = s - 1) && Vc.covV h d))) [.agg (enT d r s c u ops), .tr h.length (encs Vc.veC h)] := by
  have hu := And.intro hr hs
  have hrg := Vc.refGet_call h r hh.s (by omega)
  have hrc := Vc.refCovers_call h d hh.s hh.ok hd.ok (by omega) (by omega)
  have hbd := Vc.getV_bd hh.ok r
  have hw : IntKind.u32.wrap (Vc.getV h r + 1) = Vc.getV h r + 1 := wrap_u32 (by omega) (by omega)
  by_cases hb : Vc.getV h r = s - 1
  · have hb2 : (Vc.getV h r + 1 == s) = true := by rw [hb]; simp
    rw [decide_eq_true hb, Bool.true_and]
    generalize Vc.covV h d = B at *
    generalize Vc.getV h r = g at *
    refine SCall.of_body' (TT := TT) (fun _ => false) [false, false] ttok Tryz.func22 rfl (Nat.le_of_ble_eq_true rfl) rfl fun fx hfx => WK.top ?_
    simp only [impl, imp, argT, List.append_nil, List.map_nil, List.nil_append, show Tryz.f22.ntmps = 21 from rfl, Nat.zero_add, Nat.reduceAdd]
    have FX := And.intro hw hb2
    repeat' (first | refine WK.seq ?_ | refine WK.reg ?_ | refine IL.nil ?_ | refine WK.drawnS (id := 1) mixed [] [4, 14] [0, 0, 0, 0, 0, 1, 0, 0, 0, 1, 1, 1, 1, 1, 1, 2, 2] [0, 0, 0, 0, 0, 1, 1, 1, 1, 1, 1, 1, 1, 1, 1, 2, 2] (by decide +kernel) ?_ | refine DW.nil ?_ | (with_reducible refine IL.wr ?_ ?_; focus exact cW) | (with_reducible refine DW.wr ?_ ?_; focus exact cW) | refine IL.sgF ttok ?_ | refine DW.reF ttok ?_ | refine DW.rmF ttok ?_ | refine DW.nn ?_ | refine DW.nb ?_ | refine DW.cSF ttok ent29 [.bor, .bor] true ?_ (hS := by exact hrg) | refine DW.cSF ttok ent56 [.bor, .bor] true ?_ (hS := by exact hrc) | (((first | refine DW.ag (fun h => ?_) (fun h => ?_) | refine DW.ap (fun h => ?_) (fun h => ?_)); (fail_if_success (focus (simp only [reduceCtorEq] at h)))); all_goals first | (simp only [reduceCtorEq] at h; done) | (simp only [hsA, hsD, hsE, ne_eq] at h; first | done | (exfalso; omega; done) | skip) | skip))
    all_goals try ((first | refine WK.ret ⟨.inr rfl, ?_⟩ | refine ⟨.inl rfl, ?_⟩ | refine ⟨.inl trivial, ?_⟩); refine Fin.o ?_ ?_ (h1 := by first | rfl | (simp only [go_sem, show Tryz.f22.results.toList = [.tmp 4] from rfl, reduceIte] <;> rfl)); rotate_left 1; (focus (first | rfl | skip)); all_goals try with_reducible rfl)
    all_goals skip
  · rw [decide_eq_false hb, Bool.false_and]
    have hb2 : (Vc.getV h r + 1 == s) = false := by
      have : ¬ Vc.getV h r + 1 = s := by omega
      simpa using this
    generalize Vc.getV h r = g at *
    refine SCall.of_body' (TT := TT) (fun _ => false) [false, false] ttok Tryz.func22 rfl (Nat.le_of_ble_eq_true rfl) rfl fun fx hfx => WK.top ?_
    simp only [impl, imp, argT, List.append_nil, List.map_nil, List.nil_append, show Tryz.f22.ntmps = 21 from rfl, Nat.zero_add, Nat.reduceAdd]
    have FX := And.intro hw hb2
    repeat' (first | refine WK.seq ?_ | refine WK.reg ?_ | refine IL.nil ?_ | refine WK.drawnS (id := 1) mixed [] [4, 14] [0, 0, 0, 0, 0, 1, 0, 0, 0, 1, 1, 1, 1, 1, 1, 2, 2] [0, 0, 0, 0, 0, 1, 1, 1, 1, 1, 1, 1, 1, 1, 1, 2, 2] (by decide +kernel) ?_ | refine DW.nil ?_ | (with_reducible refine IL.wr ?_ ?_; focus exact cW) | (with_reducible refine DW.wr ?_ ?_; focus exact cW) | refine IL.sgF ttok ?_ | refine DW.reF ttok ?_ | refine DW.rmF ttok ?_ | refine DW.nn ?_ | refine DW.nb ?_ | refine DW.cSF ttok ent29 [.bor, .bor] true ?_ (hS := by exact hrg) | refine DW.cSF ttok ent56 [.bor, .bor] true ?_ (hS := by exact hrc) | (((first | refine DW.ag (fun h => ?_) (fun h => ?_) | refine DW.ap (fun h => ?_) (fun h => ?_)); (fail_if_success (focus (simp only [reduceCtorEq] at h)))); all_goals first | (simp only [reduceCtorEq] at h; done) | (simp only [hsA, hsD, hsE, ne_eq] at h; first | done | (exfalso; omega; done) | skip) | skip))
    all_goals try ((first | refine WK.ret ⟨.inr rfl, ?_⟩ | refine ⟨.inl rfl, ?_⟩ | refine ⟨.inl trivial, ?_⟩); refine Fin.o ?_ ?_ (h1 := by first | rfl | (simp only [go_sem, show Tryz.f22.results.toList = [.tmp 4] from rfl, reduceIte] <;> rfl)); rotate_left 1; (focus (first | rfl | skip)); all_goals try with_reducible rfl)
    all_goals skip
theorem past_call : SCall Tryz.prog 23 [.agg (enT d r s c u ops), .tr h.length (encs Vc.veC h)] (.v (.bool (decide (s ≤ Vc.getV h r)))) [.agg (enT d r s c u ops), .tr h.length (encs Vc.veC h)] := by
  have hu := And.intro hd (And.intro hs ld)
  have hcg := Vc.get_call h r hh.s hh.ok.r hr (by omega)
  generalize Vc.getV h r = g at *
  refine SCall.of_body' (TT := TT) (fun _ => false) [false, false] ttok Tryz.func23 rfl (Nat.le_of_ble_eq_true rfl) rfl fun fx hfx => WK.top ?_
  simp only [impl, imp, argT, List.append_nil, List.map_nil, List.nil_append, show Tryz.f23.ntmps = 14 from rfl, Nat.zero_add, Nat.reduceAdd]
  repeat' (first | refine WK.seq ?_ | refine WK.reg ?_ | refine IL.nil ?_ | refine WK.drawnS (id := 1) mixed [] [4] [0, 0, 0, 0, 0, 0, 0, 0, 1, 1] [0, 0, 0, 0, 0, 1, 1, 1, 1, 1] (by decide +kernel) ?_ | refine DW.nil ?_ | (with_reducible refine IL.wr ?_ ?_; focus exact cW) | (with_reducible refine DW.wr ?_ ?_; focus exact cW) | refine IL.sg ttok ?_ | refine DW.re ttok ?_ | refine DW.rm ttok ?_ | refine DW.cS ttok ent38 [.bor, .bor] true ?_ (hS := by exact hcg))
  all_goals try ((first | refine WK.ret ⟨.inr rfl, ?_⟩ | refine ⟨.inl rfl, ?_⟩ | refine ⟨.inl trivial, ?_⟩); refine Fin.o ?_ ?_ (h1 := by first | rfl | (simp only [go_sem, show Tryz.f23.results.toList = [.tmp 4] from rfl, reduceIte] <;> rfl)); rotate_left 1; (focus (first | rfl | skip)); all_goals try with_reducible rfl)
  all_goals skip
theorem refPast_call : SCall Tryz.prog 24 [.agg (enT d r s c u ops), .tr h.length (encs Vc.veC h)] (.v (.bool (decide (s ≤ Vc.getV h r)))) [.agg (enT d r s c u ops), .tr h.length (encs Vc.veC h)] := by
  have hu := And.intro hd (And.intro hr (And.intro hs ld))
  have hrg := Vc.refGet_call h r hh.s (by omega)
  generalize Vc.getV h r = g at *
  refine SCall.of_body' (TT := TT) (fun _ => false) [false, false] ttok Tryz.func24 rfl (Nat.le_of_ble_eq_true rfl) rfl fun fx hfx => WK.top ?_
  simp only [impl, imp, argT, List.append_nil, List.map_nil, List.nil_append, show Tryz.f24.ntmps = 14 from rfl, Nat.zero_add, Nat.reduceAdd]
  repeat' (first | refine WK.seq ?_ | refine WK.reg ?_ | refine IL.nil ?_ | refine WK.drawnS (id := 1) mixed [] [4] [0, 0, 0, 0, 0, 0, 0, 0, 1, 1] [0, 0, 0, 0, 0, 1, 1, 1, 1, 1] (by decide +kernel) ?_ | refine DW.nil ?_ | (with_reducible refine IL.wr ?_ ?_; focus exact cW) | (with_reducible refine DW.wr ?_ ?_; focus exact cW) | refine IL.sg ttok ?_ | refine DW.re ttok ?_ | refine DW.rm ttok ?_ | refine DW.cS ttok ent29 [.bor, .bor] true ?_ (hS := by exact hrg))
  all_goals try ((first | refine WK.ret ⟨.inr rfl, ?_⟩ | refine ⟨.inl rfl, ?_⟩ | refine ⟨.inl trivial, ?_⟩); refine Fin.o ?_ ?_ (h1 := by first | rfl | (simp only [go_sem, show Tryz.f24.results.toList = [.tmp 4] from rfl, reduceIte] <;> rfl)); rotate_left 1; (focus (first | rfl | skip)); all_goals try with_reducible rfl)
  all_goals skip
theorem needs_call : SCall Tryz.prog 19 [.agg (enT d r s c u ops), .tr h.length (encs Vc.veC h)] (.own 66 (Vc.lackV h (Vc.withV d r (s - 1))).length true (encs Vc.gpC (Vc.lackV h (Vc.withV d r (s - 1))))) [.agg (enT d r s c u ops), .tr h.length (encs Vc.veC h)] := by
  have hcw := Vc.with_call d r (s - 1) hd hr (by omega) (by omega)
  have hlw := Vc.withV_len d hd.s r (s - 1)
  have hcl := Vc.lacks_call h (Vc.withV d r (s - 1)) hh.s hh.ok (Vc.withV_vec hd hr (by omega)).ok (by omega) (by omega)
  have hll := Vc.lackV_le h (Vc.withV d r (s - 1))
  have hw : IntKind.u32.wrap (s - 1) = s - 1 := wrap_u32 (by omega) (by omega)
  generalize Vc.lackV h (Vc.withV d r (s - 1)) = Y at *
  generalize Vc.withV d r (s - 1) = X at *
  refine SCall.of_body' (TT := TT) (fun _ => false) [false, false] ttok Tryz.func19 rfl (Nat.le_of_ble_eq_true rfl) rfl fun fx hfx => WK.top ?_
  simp only [impl, imp, argT, List.append_nil, List.map_nil, List.nil_append, show Tryz.f19.ntmps = 17 from rfl, Nat.zero_add, Nat.reduceAdd]
  have FX := hw
  repeat' (first | refine WK.seq ?_ | refine WK.reg ?_ | refine IL.nil ?_ | (with_reducible refine IL.wr ?_ ?_; focus exact cW) | refine IL.sgF ttok ?_ | refine IL.cSF ttok ent51 [.bor, .bor] true ?_ (hS := by exact hcl) | refine IL.cSF ttok ent52 [.bor, .bor, .bor] true ?_ (hS := by exact hcw))
  all_goals try ((first | refine WK.ret ⟨.inr rfl, ?_⟩ | refine ⟨.inl rfl, ?_⟩ | refine ⟨.inl trivial, ?_⟩); refine Fin.o ?_ ?_ (h1 := by first | rfl | (simp only [go_sem, show Tryz.f19.results.toList = [.tmp 4] from rfl, reduceIte] <;> rfl)); rotate_left 1; (focus (first | rfl | skip)); all_goals try with_reducible rfl)
  all_goals skip
theorem refNeeds_call : SCall Tryz.prog 20 [.agg (enT d r s c u ops), .tr h.length (encs Vc.veC h)] (.own 65 (Vc.lackV h (Vc.withV d r (s - 1))).length true (encs Vc.gpC (Vc.lackV h (Vc.withV d r (s - 1))))) [.agg (enT d r s c u ops), .tr h.length (encs Vc.veC h)] := by
  have hrw := Vc.refWith_call d r (s - 1) (by omega)
  have hlw := Vc.withV_len d hd.s r (s - 1)
  have hrl := Vc.refLacks_call h (Vc.withV d r (s - 1)) hh.s hh.ok (Vc.withV_vec hd hr (by omega)).ok (by omega) (by omega)
  have hll := Vc.lackV_le h (Vc.withV d r (s - 1))
  have hw : IntKind.u32.wrap (s - 1) = s - 1 := wrap_u32 (by omega) (by omega)
  generalize Vc.lackV h (Vc.withV d r (s - 1)) = Y at *
  generalize Vc.withV d r (s - 1) = X at *
  refine SCall.of_body' (TT := TT) (fun _ => false) [false, false] ttok Tryz.func20 rfl (Nat.le_of_ble_eq_true rfl) rfl fun fx hfx => WK.top ?_
  simp only [impl, imp, argT, List.append_nil, List.map_nil, List.nil_append, show Tryz.f20.ntmps = 17 from rfl, Nat.zero_add, Nat.reduceAdd]
  have FX := hw
  repeat' (first | refine WK.seq ?_ | refine WK.reg ?_ | refine IL.nil ?_ | (with_reducible refine IL.wr ?_ ?_; focus exact cW) | refine IL.sgF ttok ?_ | refine IL.cSF ttok ent53 [.bor, .bor] true ?_ (hS := by exact hrl) | refine IL.cSF ttok ent54 [.bor, .bor, .bor] true ?_ (hS := by exact hrw))
  all_goals try ((first | refine WK.ret ⟨.inr rfl, ?_⟩ | refine ⟨.inl rfl, ?_⟩ | refine ⟨.inl trivial, ?_⟩); refine Fin.o ?_ ?_ (h1 := by first | rfl | (simp only [go_sem, show Tryz.f20.results.toList = [.tmp 4] from rfl, reduceIte] <;> rfl)); rotate_left 1; (focus (first | rfl | skip)); all_goals try with_reducible rfl)
  all_goals skip
end
def aN (o : OpV) : Nat := atoms o.k o.t o.s
def atomGo : List OpV → Int → Option (Int × Int)
  | [], _ => none
  | o :: l, i => if 0 ≤ i ∧ i < aN o then some (o.m, i) else atomGo l (IntKind.i64.wrap (i - aN o))
def cur (l : List OpV) (i : Int) : Int := l.foldl (fun a o => IntKind.i64.wrap (a - aN o)) i
def atomR (r : Int) (x : Option (Int × Int)) : IV := match x with
  | some (m, j) => .tup [idIV r (IntKind.u32.wrap (m + IntKind.u32.wrap j)), .v (.bool true)]
  | none => .tup [idIV 0 0, .v (.bool false)]
def cnt (o : OpV) : Prop := o.t.length ≤ 100000 ∧ o.s.length ≤ 100000 ∧ (o.k = 3 → (∀ x ∈ o.s, rightI x) ∧ tot o.s ≤ 1024)
theorem atom_call (d : List Vc.Ve) (r s c u i : Int) (ops : List OpV) (hl : ops.length ≤ 40) (ho : ∀ o ∈ ops, cnt o) :
    SCall Tryz.prog 26 [.agg (enT d r s c u ops), .v (.int .i64 i)] (atomR r (atomGo ops i)) [.agg (enT d r s c u ops), .v (.int .i64 i)] := by
  refine SCall.of_body' (TT := TT) (fun _ => false) [false, false] ttok Tryz.func26 rfl (Nat.le_of_ble_eq_true rfl) rfl fun fx hfx => WK.top ?_
  simp only [impl, imp, argT, List.append_nil, List.map_nil, List.nil_append, show Tryz.f26.ntmps = 39 from rfl, Nat.zero_add, Nat.reduceAdd]
  repeat' (first | refine WK.seq ?_ | refine WK.reg ?_ | refine IL.nil ?_ | refine WK.skip ?_ | refine WK.block ?_ | refine WK.exit_here ?_ | refine WK.e1 ?_ | refine WK.e2 ?_ | (with_reducible refine IL.wr ?_ ?_; focus exact cW) | refine IL.sg ttok ?_ | refine IL.nn ?_ | refine IL.cS ttok ent58 [.bor] true ?_ (hS := by exact hat) | refine IL.cS ttok ent59 [.bor, .bor] true ?_ (hS := by exact idPlus_call _ _ _) | ((first | ((first | refine IL.ag (fun h => ?_) (fun h => ?_) | refine IL.ap (fun h => ?_) (fun h => ?_)); (fail_if_success (focus (simp only [reduceCtorEq] at h)))) | refine WK.cn (fun h => ?_) (fun h => ?_)); all_goals first | (simp only [reduceCtorEq] at h; done) | (simp only [hsA, hsD, hsE, ne_eq] at h; first | done | (exfalso; omega; done) | skip) | skip))
  refine WK.forS ops.length (fun k => atomGo (ops.drop k) (cur (ops.take k) i) = atomGo ops i) (fun k => ⟨39, [(1, .v (.int .i64 (cur (ops.take k) i))), (2, .ptr 0 0 0), (4, .ptr 1 0 0), (5, .v (.bool false)), (11, .tr ops.length (encs opC ops)), (12, .v (.int .i64 ops.length)), (13, .v (.int .i64 k))], [some ⟨false, 0, 1, false, enT d r s c u ops, 0, false⟩, some ⟨false, 0, 1, false, [.v (.int .u16 0), .v (.int .u32 0)], 0, false⟩]⟩) ⟨by simp [cur], ?_⟩ (fun k hk hI => ?_) (fun hI => ?_)
  · simp only [List.take_zero, cur, List.foldl_nil]
    (refine Weak.renS [0, 1] hfx rfl ?_ ?_ rfl <;> (simp only [go_sem, reduceIte, exists_eq_left', exists_eq_left, Blk.mk.injEq, enT, enL] <;> (try and_intros) <;> first | rfl | omega))
  · have hx : ops[k]? = some ops[k] := List.getElem?_eq_getElem hk
    have hok := ho _ (List.getElem_mem hk)
    have hle : k * 7 + 7 ≤ ops.length * 7 := by omega
    have hne : encs opC ops ≠ [] := encs_ne opC_length (by decide) hx
    have hatc : ((encs opC ops).drop (k * 7)).take 7 = opC ops[k] := encs_at opC_length hx
    have hdr : ops.drop k = ops[k] :: ops.drop (k + 1) := List.drop_eq_getElem_cons hk
    have hcu : cur (ops.take (k + 1)) i = IntKind.i64.wrap (cur (ops.take k) i - aN ops[k]) := by
      have h1 : ops.take (k + 1) = ops.take k ++ [ops[k]] := by rw [List.take_add_one, hx]; rfl
      rw [cur, h1, List.foldl_append]; rfl
    rw [hcu]
    rw [hdr, atomGo] at hI
    generalize hQ : ops[k] = o at *
    obtain ⟨ok, or, on, om, ot, os, oq⟩ := o
    unfold cnt at hok
    have hat := cAtoms_call ok or on om oq ot os os.length rfl hok.1 hok.2.1 hok.2.2
    simp only [opC] at hatc
    unfold aN at hI ⊢
    simp only at hI hat ⊢
    generalize cur (ops.take k) i = j at *
    generalize (atoms ok ot os) = A at *
    by_cases hc : 0 ≤ j ∧ j < (A : Int)
    · rw [if_pos hc] at hI
      rw [← hI]
      unfold atomR
      obtain ⟨c1, c2⟩ := hc
      have FX := And.intro hatc hle
      repeat' (first | refine WK.seq ?_ | refine WK.reg ?_ | refine IL.nil ?_ | refine WK.skip ?_ | refine WK.block ?_ | refine WK.exit_here ?_ | refine WK.e1 ?_ | refine WK.e2 ?_ | (with_reducible refine IL.wr ?_ ?_; focus exact cW) | refine IL.sgF ttok ?_ | refine IL.nn ?_ | refine IL.cSF ttok ent58 [.bor] true ?_ (hS := by exact hat) | refine IL.cSF ttok ent59 [.bor, .bor] true ?_ (hS := by exact idPlus_call _ _ _) | ((first | ((first | refine IL.ag (fun h => ?_) (fun h => ?_) | refine IL.ap (fun h => ?_) (fun h => ?_)); (fail_if_success (focus (simp only [reduceCtorEq] at h)))) | refine WK.cn (fun h => ?_) (fun h => ?_)); all_goals first | (simp only [reduceCtorEq] at h; done) | (simp only [hsA, hsD, hsE, ne_eq] at h; first | done | (exfalso; omega; done) | skip) | skip))
      all_goals try ((first | refine WK.ret ⟨.inr rfl, ?_⟩ | refine ⟨.inl rfl, ?_⟩ | refine ⟨.inl trivial, ?_⟩); refine Fin.o ?_ ?_ (h1 := by first | rfl | (simp only [go_sem, show Tryz.f26.results.toList = [.cell 4 73, .tmp 5] from rfl, reduceIte] <;> rfl)); rotate_left 1; (focus (first | rfl | skip)); all_goals try with_reducible rfl)
      all_goals rfl
    · rw [if_neg hc] at hI
      have hc1 : (decide (0 ≤ j) && decide (j < (A : Int))) = false := by simpa using hc
      have FX := And.intro hatc hle
      repeat' (first | refine WK.seq ?_ | refine WK.reg ?_ | refine IL.nil ?_ | refine WK.skip ?_ | refine WK.block ?_ | refine WK.exit_here ?_ | refine WK.e1 ?_ | refine WK.e2 ?_ | (with_reducible refine IL.wr ?_ ?_; focus exact cW) | refine IL.sgF ttok ?_ | refine IL.nn ?_ | refine IL.cSF ttok ent58 [.bor] true ?_ (hS := by exact hat) | refine IL.cSF ttok ent59 [.bor, .bor] true ?_ (hS := by exact idPlus_call _ _ _) | ((first | ((first | refine IL.ag (fun h => ?_) (fun h => ?_) | refine IL.ap (fun h => ?_) (fun h => ?_)); (fail_if_success (focus (simp only [reduceCtorEq] at h)))) | refine WK.cn (fun h => ?_) (fun h => ?_)); all_goals first | (simp only [reduceCtorEq] at h; done) | (simp only [hsA, hsD, hsE, ne_eq] at h; first | done | (exfalso; omega; done) | skip) | skip))
      all_goals (refine ⟨hI, ?_⟩)
      all_goals (refine Weak.renS [0, 1] hfx rfl ?_ ?_ rfl <;> (simp only [go_sem, reduceIte, exists_eq_left', exists_eq_left, Blk.mk.injEq, enT, enL] <;> (try and_intros) <;> first | rfl | omega))
  · rw [List.drop_length] at hI
    rw [← hI]
    unfold atomGo atomR
    repeat' (first | refine WK.seq ?_ | refine WK.reg ?_ | refine IL.nil ?_ | refine WK.skip ?_ | refine WK.block ?_ | refine WK.exit_here ?_ | refine WK.e1 ?_ | refine WK.e2 ?_ | (with_reducible refine IL.wr ?_ ?_; focus exact cW) | refine IL.sg ttok ?_ | refine IL.nn ?_ | refine IL.cS ttok ent58 [.bor] true ?_ (hS := by exact hat) | refine IL.cS ttok ent59 [.bor, .bor] true ?_ (hS := by exact idPlus_call _ _ _) | ((first | ((first | refine IL.ag (fun h => ?_) (fun h => ?_) | refine IL.ap (fun h => ?_) (fun h => ?_)); (fail_if_success (focus (simp only [reduceCtorEq] at h)))) | refine WK.cn (fun h => ?_) (fun h => ?_)); all_goals first | (simp only [reduceCtorEq] at h; done) | (simp only [hsA, hsD, hsE, ne_eq] at h; first | done | (exfalso; omega; done) | skip) | skip))
    all_goals try ((first | refine WK.ret ⟨.inr rfl, ?_⟩ | refine ⟨.inl rfl, ?_⟩ | refine ⟨.inl trivial, ?_⟩); refine Fin.o ?_ ?_ (h1 := by first | rfl | (simp only [go_sem, show Tryz.f26.results.toList = [.cell 4 73, .tmp 5] from rfl, reduceIte] <;> rfl)); rotate_left 1; (focus (first | rfl | skip)); all_goals try with_reducible rfl)
    all_goals rfl
end Go.Proofs.YtclhjcbnpdlgbaaGreatDoor
/- WireReady: its function. -/
namespace Go.Proofs.YtclhjcbnpdlgbaaGreatDoor
open Go Go.Lift
set_option maxHeartbeats 4000000
set_option linter.unusedSimpArgs false
set_option linter.unusedVariables false
attribute [local irreducible] WK IL IP IG IW DW

def cumN (l : List OpV) : Nat := (l.map aN).sum
theorem cumN_cons (o : OpV) (l : List OpV) : cumN (o :: l) = aN o + cumN l := by simp [cumN]
theorem cumN_take (l : List OpV) (k : Nat) (o : OpV) (hx : l[k]? = some o) : cumN (l.take (k + 1)) = cumN (l.take k) + aN o := by
  rw [List.take_add_one, hx]; simp [cumN]
theorem cumN_le (l : List OpV) (h : ∀ o ∈ l, aN o ≤ 100000) : cumN l ≤ l.length * 100000 := by
  induction l with
  | nil => simp [cumN]
  | cons o l ih =>
    have h1 := ih fun x hx => h x (by simp [hx])
    have h2 := h o (by simp)
    rw [cumN_cons, List.length_cons]; omega
theorem atomGo_at : ∀ (l : List OpV) (k j : Nat) (o : OpV), l[k]? = some o → j < aN o → cumN (l.take k) + j < 9000000000000000000 → atomGo l ((cumN (l.take k) : Int) + (j : Int)) = some (o.m, (j : Int))
  | [], k, j, o, h, _, _ => by simp at h
  | x :: l, 0, j, o, h, hj, _ => by
    simp only [List.getElem?_cons_zero, Option.some.injEq] at h
    subst h
    simp only [List.take_zero, cumN, List.map_nil, List.sum_nil]
    rw [atomGo, if_pos (by omega)]
    simp
  | x :: l, k + 1, j, o, h, hj, hb => by
    rw [List.getElem?_cons_succ] at h
    rw [List.take_succ_cons, cumN_cons] at hb ⊢
    have ih := atomGo_at l k j o h hj (by omega)
    rw [atomGo, if_neg (by omega), wrap_i64 (by omega) (by omega)]
    rw [show (((aN x + cumN (l.take k) : Nat) : Int) + (j : Int)) - (aN x : Int) = (cumN (l.take k) : Int) + (j : Int) by omega]
    exact ih
theorem atomGo_none : ∀ (l : List OpV) (i : Int), cumN l ≤ 4000000 → -9223372036854775808 ≤ i → i ≤ 9223372036854775807 → (i < 0 ∨ (cumN l : Int) ≤ i) → atomGo l i = none
  | [], _, _, _, _, _ => rfl
  | o :: l, i, hc, h1, h2, h => by
    rw [cumN_cons] at hc h
    rw [atomGo, if_neg (by omega)]
    by_cases hw : -9223372036854775808 ≤ i - aN o
    · rw [wrap_i64 hw (by omega)]
      exact atomGo_none l _ (by omega) (by omega) (by omega) (by omega)
    · have hm : IntKind.i64.wrap (i - aN o) = i - aN o + 18446744073709551616 := by
        rw [IntKind.wrap_i64]; omega
      rw [hm]
      exact atomGo_none l _ (by omega) (by omega) (by omega) (by omega)
theorem atomGo_some : ∀ (l : List OpV) (i : Int), cumN l ≤ 4000000 → 0 ≤ i → i < (cumN l : Int) → ∃ m j, atomGo l i = some (m, j)
  | [], i, _, h1, h2 => by simp [cumN] at h2; omega
  | o :: l, i, hc, h1, h2 => by
    rw [cumN_cons] at hc h2
    rw [atomGo]
    by_cases h : 0 ≤ i ∧ i < (aN o : Int)
    · rw [if_pos h]; exact ⟨_, _, rfl⟩
    · rw [if_neg h, wrap_i64 (by omega) (by omega)]
      exact atomGo_some l _ (by omega) (by omega) (by omega)
theorem cnt_of {o : OpV} (hs : smallO o) (h : fit8 o.k o.r o.n o.m o.t o.s o.q = 0) : cnt o ∧ aN o ≤ 100000 ∧ (0 < aN o → 1 ≤ o.m ∧ o.m ≤ 268435456) := by
  unfold smallO at hs
  have hok := fit8_ok h
  have h3 : o.k = 3 → (∀ x ∈ o.s, rightI x) ∧ tot o.s ≤ 1024 := fun k3 => by
    rcases hok with h | h | h | h
    · omega
    · omega
    · exact fit7_ok h.2.2.2.1
    · omega
  refine ⟨⟨by omega, by omega, h3⟩, ?_, fun hp => ?_⟩
  · unfold aN atoms
    split
    · omega
    · split
      · rename_i k3
        have := idsL_len o.s (h3 k3).1
        have := (h3 k3).2
        omega
      · omega
  · unfold aN atoms at hp
    rcases hok with h | h | h | h
    · have := h.2.2.2.2.1; unfold numd at h; omega
    · rw [if_neg (by omega), if_neg (by omega)] at hp; omega
    · unfold numd at h; omega
    · rw [if_neg (by omega), if_neg (by omega)] at hp; omega
open Classical in
theorem wireReady_call (d v : List Vc.Ve) (r s c u i : Int) (ops : List OpV) (hd8 : d.length * 8 ≤ 140737488355328) (hh8 : v.length * 8 ≤ 140737488355328) (hl72 : ops.length * 72 ≤ 140737488355328) (h16 : ∀ o ∈ ops, o.s.length * 16 ≤ 140737488355328) (ht : ∀ o ∈ ops, o.t.length ≤ 9223372036854775807 ∧ o.s.length ≤ 9223372036854775807)
    (hw : wfD d) (hwh : wfD v) (hr : 0 ≤ r ∧ r ≤ 65535) (hwo : ∀ o ∈ ops, wfC o) (hi : -9223372036854775808 ≤ i ∧ i ≤ 9223372036854775807) :
    SCallG GT Tryz.prog 6 [.agg (enT d r s c u ops), .tr v.length (encs Vc.veC v), .v (.int .i64 i)] (.v (.bool true)) [.agg (enT d r s c u ops), .tr v.length (encs Vc.veC v), .v (.int .i64 i)] := by
  have hsma := small10_call d r s c u ops (by omega) (by omega) ht
  have href := ref10_frz d r s c u ops hd8 hl72 h16
  have hdep := SCall.frz (deps_call v hh8) rfl
  simp only [frzR] at hdep
  by_cases hsm : d.length ≤ 100 ∧ smallT ops
  rotate_left
  · rw [decide_eq_false hsm] at hsma
    refine SCallG.of_body' (G := GT) (TT := TT) (fun _ => false) [false, false, false] ttok Tryz.func6 rfl (Nat.le_of_ble_eq_true rfl) rfl fun fx hfx hgf => WK.top ?_
    simp only [impl, imp, argT, List.append_nil, List.map_nil, List.nil_append, show Tryz.f6.ntmps = 149 from rfl, Nat.zero_add, Nat.reduceAdd]
    repeat' (first | refine WK.seq ?_ | refine WK.reg ?_ | refine IL.nil ?_ | refine WK.skip ?_ | refine WK.block ?_ | refine WK.exit_here ?_ | refine WK.e1 ?_ | refine WK.e2 ?_ | refine WK.drawnS (id := 6) mixed [] [2, 5] [0, 0, 0, 0, 0, 1, 2, 2] [0, 0, 0, 1, 1, 1, 2, 2] (by decide +kernel) ?_ | refine WK.drawnS (id := 7) mixed [] [2, 5, 10, 13] [0, 0, 0, 0, 0, 1, 2, 2, 2, 2, 2, 2, 2, 3, 4, 4, 4, 4, 4, 4, 4, 4, 4] [0, 0, 0, 1, 1, 1, 2, 2, 2, 2, 2, 3, 3, 3, 4, 4, 4, 4, 4, 4, 4, 4, 4] (by decide +kernel) ?_ | refine WK.drawnS (id := 12) mixed [] [] [] [] (by decide +kernel) ?_ | refine DW.nil ?_ | (with_reducible refine IL.wr ?_ ?_; focus exact cW) | (with_reducible refine DW.wr ?_ ?_; focus exact cW) | refine IL.sg ttok ?_ | refine IL.nn ?_ | refine DW.re ttok ?_ | refine DW.rm ttok ?_ | refine DW.nn ?_ | refine DW.nb ?_ | refine IL.cSG hgf ttok ent7 [] true ?_ (hS := by exact anchor10) | refine IL.cS ttok ent8 [.bor] true ?_ (hS := by exact hsma) | refine IL.cS ttok ent9 [.bor] false ?_ (hS := by exact href) | refine IL.cS ttok ent10 [.bor] true ?_ (hS := by exact hf2) | refine IL.cS ttok ent17 [.bor] false ?_ (hS := by exact hdep) | refine IL.cS ttok ent18 [.bor] true ?_ (hS := by exact hrr) | refine DW.cS ttok ent19 [.bor, .bor] false ?_ (hS := by exact hnd) | refine DW.cS ttok ent20 [.bor, .bor] false ?_ (hS := by exact hrn) | refine DW.cS ttok ent21 [.bor, .bor] true ?_ (hS := by exact hre) | refine DW.cS ttok ent22 [.bor, .bor] true ?_ (hS := by exact hrre) | refine DW.cS ttok ent23 [.bor, .bor] true ?_ (hS := by exact hpa) | refine DW.cS ttok ent24 [.bor, .bor] true ?_ (hS := by exact hrpa) | refine IL.cS ttok ent25 [.bor] true ?_ (hS := by exact hato) | refine IL.cS ttok ent26 [.bor, .bor] true ?_ (hS := by exact hatm) | ((first | ((first | refine IL.ag (fun h => ?_) (fun h => ?_) | refine DW.ag (fun h => ?_) (fun h => ?_) | refine IL.ap (fun h => ?_) (fun h => ?_) | refine DW.ap (fun h => ?_) (fun h => ?_)); (fail_if_success (focus (simp only [reduceCtorEq] at h)))) | refine WK.cn (fun h => ?_) (fun h => ?_)); all_goals first | (simp only [reduceCtorEq] at h; done) | (simp only [hsA, hsD, hsE, ne_eq] at h; first | done | (exfalso; omega; done) | skip) | skip))
    all_goals try ((first | refine WK.ret ⟨.inr rfl, ?_⟩ | refine ⟨.inl rfl, ?_⟩ | refine ⟨.inl trivial, ?_⟩); refine Fin.o ?_ ?_ (h1 := by first | rfl | (simp only [go_sem, show Tryz.f6.results.toList = [.tmp 6] from rfl, reduceIte] <;> rfl)); rotate_left 1; (focus (first | rfl | skip)); all_goals try with_reducible rfl)
    all_goals skip
  rw [decide_eq_true hsm] at hsma
  have hsz : ∀ o ∈ ops, o.t.length ≤ 1000 ∧ o.s.length ≤ 1024 := fun o ho => by have := hsm.2.2 o ho; unfold smallO at this; omega
  have hf2 := rFit10_call d r s c u ops (by omega) hw hsm.2.1 hsz hwo
  by_cases h0 : fit10 d r s c u ops = 0
  rotate_left
  · generalize fit10 d r s c u ops = F at *
    refine SCallG.of_body' (G := GT) (TT := TT) (fun _ => false) [false, false, false] ttok Tryz.func6 rfl (Nat.le_of_ble_eq_true rfl) rfl fun fx hfx hgf => WK.top ?_
    simp only [impl, imp, argT, List.append_nil, List.map_nil, List.nil_append, show Tryz.f6.ntmps = 149 from rfl, Nat.zero_add, Nat.reduceAdd]
    repeat' (first | refine WK.seq ?_ | refine WK.reg ?_ | refine IL.nil ?_ | refine WK.skip ?_ | refine WK.block ?_ | refine WK.exit_here ?_ | refine WK.e1 ?_ | refine WK.e2 ?_ | refine WK.drawnS (id := 6) mixed [] [2, 5] [0, 0, 0, 0, 0, 1, 2, 2] [0, 0, 0, 1, 1, 1, 2, 2] (by decide +kernel) ?_ | refine WK.drawnS (id := 7) mixed [] [2, 5, 10, 13] [0, 0, 0, 0, 0, 1, 2, 2, 2, 2, 2, 2, 2, 3, 4, 4, 4, 4, 4, 4, 4, 4, 4] [0, 0, 0, 1, 1, 1, 2, 2, 2, 2, 2, 3, 3, 3, 4, 4, 4, 4, 4, 4, 4, 4, 4] (by decide +kernel) ?_ | refine WK.drawnS (id := 12) mixed [] [] [] [] (by decide +kernel) ?_ | refine DW.nil ?_ | (with_reducible refine IL.wr ?_ ?_; focus exact cW) | (with_reducible refine DW.wr ?_ ?_; focus exact cW) | refine IL.sg ttok ?_ | refine IL.nn ?_ | refine DW.re ttok ?_ | refine DW.rm ttok ?_ | refine DW.nn ?_ | refine DW.nb ?_ | refine IL.cSG hgf ttok ent7 [] true ?_ (hS := by exact anchor10) | refine IL.cS ttok ent8 [.bor] true ?_ (hS := by exact hsma) | refine IL.cS ttok ent9 [.bor] false ?_ (hS := by exact href) | refine IL.cS ttok ent10 [.bor] true ?_ (hS := by exact hf2) | refine IL.cS ttok ent17 [.bor] false ?_ (hS := by exact hdep) | refine IL.cS ttok ent18 [.bor] true ?_ (hS := by exact hrr) | refine DW.cS ttok ent19 [.bor, .bor] false ?_ (hS := by exact hnd) | refine DW.cS ttok ent20 [.bor, .bor] false ?_ (hS := by exact hrn) | refine DW.cS ttok ent21 [.bor, .bor] true ?_ (hS := by exact hre) | refine DW.cS ttok ent22 [.bor, .bor] true ?_ (hS := by exact hrre) | refine DW.cS ttok ent23 [.bor, .bor] true ?_ (hS := by exact hpa) | refine DW.cS ttok ent24 [.bor, .bor] true ?_ (hS := by exact hrpa) | refine IL.cS ttok ent25 [.bor] true ?_ (hS := by exact hato) | refine IL.cS ttok ent26 [.bor, .bor] true ?_ (hS := by exact hatm) | ((first | ((first | refine IL.ag (fun h => ?_) (fun h => ?_) | refine DW.ag (fun h => ?_) (fun h => ?_) | refine IL.ap (fun h => ?_) (fun h => ?_) | refine DW.ap (fun h => ?_) (fun h => ?_)); (fail_if_success (focus (simp only [reduceCtorEq] at h)))) | refine WK.cn (fun h => ?_) (fun h => ?_)); all_goals first | (simp only [reduceCtorEq] at h; done) | (simp only [hsA, hsD, hsE, ne_eq] at h; first | done | (exfalso; omega; done) | skip) | skip))
    all_goals try ((first | refine WK.ret ⟨.inr rfl, ?_⟩ | refine ⟨.inl rfl, ?_⟩ | refine ⟨.inl trivial, ?_⟩); refine Fin.o ?_ ?_ (h1 := by first | rfl | (simp only [go_sem, show Tryz.f6.results.toList = [.tmp 6] from rfl, reduceIte] <;> rfl)); rotate_left 1; (focus (first | rfl | skip)); all_goals try with_reducible rfl)
    all_goals skip
  rw [h0] at hf2
  by_cases h100 : v.length ≤ 100
  rotate_left
  · refine SCallG.of_body' (G := GT) (TT := TT) (fun _ => false) [false, false, false] ttok Tryz.func6 rfl (Nat.le_of_ble_eq_true rfl) rfl fun fx hfx hgf => WK.top ?_
    simp only [impl, imp, argT, List.append_nil, List.map_nil, List.nil_append, show Tryz.f6.ntmps = 149 from rfl, Nat.zero_add, Nat.reduceAdd]
    repeat' (first | refine WK.seq ?_ | refine WK.reg ?_ | refine IL.nil ?_ | refine WK.skip ?_ | refine WK.block ?_ | refine WK.exit_here ?_ | refine WK.e1 ?_ | refine WK.e2 ?_ | refine WK.drawnS (id := 6) mixed [] [2, 5] [0, 0, 0, 0, 0, 1, 2, 2] [0, 0, 0, 1, 1, 1, 2, 2] (by decide +kernel) ?_ | refine WK.drawnS (id := 7) mixed [] [2, 5, 10, 13] [0, 0, 0, 0, 0, 1, 2, 2, 2, 2, 2, 2, 2, 3, 4, 4, 4, 4, 4, 4, 4, 4, 4] [0, 0, 0, 1, 1, 1, 2, 2, 2, 2, 2, 3, 3, 3, 4, 4, 4, 4, 4, 4, 4, 4, 4] (by decide +kernel) ?_ | refine WK.drawnS (id := 12) mixed [] [] [] [] (by decide +kernel) ?_ | refine DW.nil ?_ | (with_reducible refine IL.wr ?_ ?_; focus exact cW) | (with_reducible refine DW.wr ?_ ?_; focus exact cW) | refine IL.sg ttok ?_ | refine IL.nn ?_ | refine DW.re ttok ?_ | refine DW.rm ttok ?_ | refine DW.nn ?_ | refine DW.nb ?_ | refine IL.cSG hgf ttok ent7 [] true ?_ (hS := by exact anchor10) | refine IL.cS ttok ent8 [.bor] true ?_ (hS := by exact hsma) | refine IL.cS ttok ent9 [.bor] false ?_ (hS := by exact href) | refine IL.cS ttok ent10 [.bor] true ?_ (hS := by exact hf2) | refine IL.cS ttok ent17 [.bor] false ?_ (hS := by exact hdep) | refine IL.cS ttok ent18 [.bor] true ?_ (hS := by exact hrr) | refine DW.cS ttok ent19 [.bor, .bor] false ?_ (hS := by exact hnd) | refine DW.cS ttok ent20 [.bor, .bor] false ?_ (hS := by exact hrn) | refine DW.cS ttok ent21 [.bor, .bor] true ?_ (hS := by exact hre) | refine DW.cS ttok ent22 [.bor, .bor] true ?_ (hS := by exact hrre) | refine DW.cS ttok ent23 [.bor, .bor] true ?_ (hS := by exact hpa) | refine DW.cS ttok ent24 [.bor, .bor] true ?_ (hS := by exact hrpa) | refine IL.cS ttok ent25 [.bor] true ?_ (hS := by exact hato) | refine IL.cS ttok ent26 [.bor, .bor] true ?_ (hS := by exact hatm) | ((first | ((first | refine IL.ag (fun h => ?_) (fun h => ?_) | refine DW.ag (fun h => ?_) (fun h => ?_) | refine IL.ap (fun h => ?_) (fun h => ?_) | refine DW.ap (fun h => ?_) (fun h => ?_)); (fail_if_success (focus (simp only [reduceCtorEq] at h)))) | refine WK.cn (fun h => ?_) (fun h => ?_)); all_goals first | (simp only [reduceCtorEq] at h; done) | (simp only [hsA, hsD, hsE, ne_eq] at h; first | done | (exfalso; omega; done) | skip) | skip))
    all_goals try ((first | refine WK.ret ⟨.inr rfl, ?_⟩ | refine ⟨.inl rfl, ?_⟩ | refine ⟨.inl trivial, ?_⟩); refine Fin.o ?_ ?_ (h1 := by first | rfl | (simp only [go_sem, show Tryz.f6.results.toList = [.tmp 6] from rfl, reduceIte] <;> rfl)); rotate_left 1; (focus (first | rfl | skip)); all_goals try with_reducible rfl)
    all_goals skip
  have hrr := Vc.refRight_call v (by omega) (fun x hx => (hwh x hx).1)
  by_cases hR : Vc.rightB v = true
  rotate_left
  · rw [Bool.eq_false_iff.2 hR] at hrr
    refine SCallG.of_body' (G := GT) (TT := TT) (fun _ => false) [false, false, false] ttok Tryz.func6 rfl (Nat.le_of_ble_eq_true rfl) rfl fun fx hfx hgf => WK.top ?_
    simp only [impl, imp, argT, List.append_nil, List.map_nil, List.nil_append, show Tryz.f6.ntmps = 149 from rfl, Nat.zero_add, Nat.reduceAdd]
    repeat' (first | refine WK.seq ?_ | refine WK.reg ?_ | refine IL.nil ?_ | refine WK.skip ?_ | refine WK.block ?_ | refine WK.exit_here ?_ | refine WK.e1 ?_ | refine WK.e2 ?_ | refine WK.drawnS (id := 6) mixed [] [2, 5] [0, 0, 0, 0, 0, 1, 2, 2] [0, 0, 0, 1, 1, 1, 2, 2] (by decide +kernel) ?_ | refine WK.drawnS (id := 7) mixed [] [2, 5, 10, 13] [0, 0, 0, 0, 0, 1, 2, 2, 2, 2, 2, 2, 2, 3, 4, 4, 4, 4, 4, 4, 4, 4, 4] [0, 0, 0, 1, 1, 1, 2, 2, 2, 2, 2, 3, 3, 3, 4, 4, 4, 4, 4, 4, 4, 4, 4] (by decide +kernel) ?_ | refine WK.drawnS (id := 12) mixed [] [] [] [] (by decide +kernel) ?_ | refine DW.nil ?_ | (with_reducible refine IL.wr ?_ ?_; focus exact cW) | (with_reducible refine DW.wr ?_ ?_; focus exact cW) | refine IL.sg ttok ?_ | refine IL.nn ?_ | refine DW.re ttok ?_ | refine DW.rm ttok ?_ | refine DW.nn ?_ | refine DW.nb ?_ | refine IL.cSG hgf ttok ent7 [] true ?_ (hS := by exact anchor10) | refine IL.cS ttok ent8 [.bor] true ?_ (hS := by exact hsma) | refine IL.cS ttok ent9 [.bor] false ?_ (hS := by exact href) | refine IL.cS ttok ent10 [.bor] true ?_ (hS := by exact hf2) | refine IL.cS ttok ent17 [.bor] false ?_ (hS := by exact hdep) | refine IL.cS ttok ent18 [.bor] true ?_ (hS := by exact hrr) | refine DW.cS ttok ent19 [.bor, .bor] false ?_ (hS := by exact hnd) | refine DW.cS ttok ent20 [.bor, .bor] false ?_ (hS := by exact hrn) | refine DW.cS ttok ent21 [.bor, .bor] true ?_ (hS := by exact hre) | refine DW.cS ttok ent22 [.bor, .bor] true ?_ (hS := by exact hrre) | refine DW.cS ttok ent23 [.bor, .bor] true ?_ (hS := by exact hpa) | refine DW.cS ttok ent24 [.bor, .bor] true ?_ (hS := by exact hrpa) | refine IL.cS ttok ent25 [.bor] true ?_ (hS := by exact hato) | refine IL.cS ttok ent26 [.bor, .bor] true ?_ (hS := by exact hatm) | ((first | ((first | refine IL.ag (fun h => ?_) (fun h => ?_) | refine DW.ag (fun h => ?_) (fun h => ?_) | refine IL.ap (fun h => ?_) (fun h => ?_) | refine DW.ap (fun h => ?_) (fun h => ?_)); (fail_if_success (focus (simp only [reduceCtorEq] at h)))) | refine WK.cn (fun h => ?_) (fun h => ?_)); all_goals first | (simp only [reduceCtorEq] at h; done) | (simp only [hsA, hsD, hsE, ne_eq] at h; first | done | (exfalso; omega; done) | skip) | skip))
    all_goals try ((first | refine WK.ret ⟨.inr rfl, ?_⟩ | refine ⟨.inl rfl, ?_⟩ | refine ⟨.inl trivial, ?_⟩); refine Fin.o ?_ ?_ (h1 := by first | rfl | (simp only [go_sem, show Tryz.f6.results.toList = [.tmp 6] from rfl, reduceIte] <;> rfl)); rotate_left 1; (focus (first | rfl | skip)); all_goals try with_reducible rfl)
    all_goals skip
  rw [hR] at hrr
  obtain ⟨f1, f2, f3⟩ := fit10_ok h0
  obtain ⟨g1, g2, g3, g4, g5, g6, g7, g8, g9⟩ := fit9_ok f3
  have hvd : Vc.Vec d := Vc.Vec.of f1 fun x hx => (hw x hx).1
  have hvh : Vc.Vec v := Vc.Vec.of hR fun x hx => (hwh x hx).1
  have hre := ready_call d v r s c u ops hvd hvh hr ⟨g1, g2⟩ hsm.1 h100
  have hrre := refReady_call d v r s c u ops hvd hvh hr ⟨g1, g2⟩ hsm.1 h100
  have hpa := past_call d v r s c u ops hvd hvh hr ⟨g1, g2⟩ hsm.1 h100
  have hrpa := refPast_call d v r s c u ops hvd hvh hr ⟨g1, g2⟩ hsm.1 h100
  have hnd := SCall.frz (needs_call d v r s c u ops hvd hvh hr ⟨g1, g2⟩ hsm.1 h100) rfl
  have hrn := SCall.frz (refNeeds_call d v r s c u ops hvd hvh hr ⟨g1, g2⟩ hsm.1 h100) rfl
  simp only [frzR] at hnd hrn
  have hYl : (Vc.lackV v (Vc.withV d r (s - 1))).length ≤ 101 := by
    have h1 := Vc.lackV_le v (Vc.withV d r (s - 1))
    have h2 := Vc.withV_len d hvd.s r (s - 1)
    omega
  have hcnt : ∀ o ∈ ops, cnt o ∧ aN o ≤ 100000 ∧ (0 < aN o → 1 ≤ o.m ∧ o.m ≤ 268435456) := fun o ho => cnt_of (hsm.2.2 o ho) (g9 o ho)
  have hcum : ∀ k, cumN (ops.take k) ≤ 1600000 := fun k => by
    have h1 := cumN_le (ops.take k) fun o ho => (hcnt o (List.mem_of_mem_take ho)).2.1
    rw [List.length_take] at h1
    omega
  have hatom := fun j => atom_call d r s c u j ops (by omega) (fun o ho => (hcnt o ho).1)
  clear hwo hsz ht h16 f1 f2 f3 h0 hR hvd hvh
  generalize Vc.lackV v (Vc.withV d r (s - 1)) = Y at *
  generalize (decide (Vc.getV v r = s - 1) && Vc.covV v d) = B1 at *
  generalize decide (s ≤ Vc.getV v r) = B2 at *
  refine SCallG.of_body' (G := GT) (TT := TT) (fun _ => false) [false, false, false] ttok Tryz.func6 rfl (Nat.le_of_ble_eq_true rfl) rfl fun fx hfx hgf => WK.top ?_
  simp only [impl, imp, argT, List.append_nil, List.map_nil, List.nil_append, show Tryz.f6.ntmps = 149 from rfl, Nat.zero_add, Nat.reduceAdd]
  repeat' (first | refine WK.seq ?_ | refine WK.reg ?_ | refine IL.nil ?_ | refine WK.skip ?_ | refine WK.block ?_ | refine WK.exit_here ?_ | refine WK.e1 ?_ | refine WK.e2 ?_ | refine WK.drawnS (id := 6) mixed [] [2, 5] [0, 0, 0, 0, 0, 1, 2, 2] [0, 0, 0, 1, 1, 1, 2, 2] (by decide +kernel) ?_ | refine WK.drawnS (id := 7) mixed [] [2, 5, 10, 13] [0, 0, 0, 0, 0, 1, 2, 2, 2, 2, 2, 2, 2, 3, 4, 4, 4, 4, 4, 4, 4, 4, 4] [0, 0, 0, 1, 1, 1, 2, 2, 2, 2, 2, 3, 3, 3, 4, 4, 4, 4, 4, 4, 4, 4, 4] (by decide +kernel) ?_ | refine WK.drawnS (id := 12) mixed [] [] [] [] (by decide +kernel) ?_ | refine DW.nil ?_ | (with_reducible refine IL.wr ?_ ?_; focus exact cW) | (with_reducible refine DW.wr ?_ ?_; focus exact cW) | refine IL.sg ttok ?_ | refine IL.nn ?_ | refine DW.re ttok ?_ | refine DW.rm ttok ?_ | refine DW.nn ?_ | refine DW.nb ?_ | refine IL.cSG hgf ttok ent7 [] true ?_ (hS := by exact anchor10) | refine IL.cS ttok ent8 [.bor] true ?_ (hS := by exact hsma) | refine IL.cS ttok ent9 [.bor] false ?_ (hS := by exact href) | refine IL.cS ttok ent10 [.bor] true ?_ (hS := by exact hf2) | refine IL.cS ttok ent17 [.bor] false ?_ (hS := by exact hdep) | refine IL.cS ttok ent18 [.bor] true ?_ (hS := by exact hrr) | refine DW.cS ttok ent19 [.bor, .bor] false ?_ (hS := by exact hnd) | refine DW.cS ttok ent20 [.bor, .bor] false ?_ (hS := by exact hrn) | refine DW.cS ttok ent21 [.bor, .bor] true ?_ (hS := by exact hre) | refine DW.cS ttok ent22 [.bor, .bor] true ?_ (hS := by exact hrre) | refine DW.cS ttok ent23 [.bor, .bor] true ?_ (hS := by exact hpa) | refine DW.cS ttok ent24 [.bor, .bor] true ?_ (hS := by exact hrpa) | refine IL.cS ttok ent25 [.bor] true ?_ (hS := by exact hato) | refine IL.cS ttok ent26 [.bor, .bor] true ?_ (hS := by exact hatm) | ((first | ((first | refine IL.ag (fun h => ?_) (fun h => ?_) | refine DW.ag (fun h => ?_) (fun h => ?_) | refine IL.ap (fun h => ?_) (fun h => ?_) | refine DW.ap (fun h => ?_) (fun h => ?_)); (fail_if_success (focus (simp only [reduceCtorEq] at h)))) | refine WK.cn (fun h => ?_) (fun h => ?_)); all_goals first | (simp only [reduceCtorEq] at h; done) | (simp only [hsA, hsD, hsE, ne_eq] at h; first | done | (exfalso; omega; done) | skip) | skip))
  refine WK.forS Y.length (fun k => True) (fun k => ⟨149, [(2, .v (.int .i64 i)), (3, .ptr 0 0 0), (7, .ptr 1 0 0), (9, .tr Y.length (encs Vc.gpC Y)), (10, .tr Y.length (encs Vc.gpC Y)), (74, .v (.int .i64 Y.length)), (75, .v (.int .i64 k))], [some ⟨false, 0, 1, false, enT d r s c u ops, 0, false⟩, some ⟨false, 0, 1, false, enT d r s c u ops, 0, false⟩]⟩) ⟨trivial, ?_⟩ (fun k hk _ => ?_) (fun _ => ?_)
  · (refine Weak.renS [0, 3] hfx rfl ?_ ?_ rfl <;> (simp only [go_sem, reduceIte, exists_eq_left', exists_eq_left, Blk.mk.injEq, enT, enL] <;> (try and_intros) <;> first | rfl | omega))
  · have hx : Y[k]? = some Y[k] := List.getElem?_eq_getElem hk
    have hle : k * 3 + 3 ≤ Y.length * 3 := by omega
    have hne : encs Vc.gpC Y ≠ [] := encs_ne Vc.gpC_length (by decide) hx
    have hat : ((encs Vc.gpC Y).drop (k * 3)).take 3 = [.v (.int .u16 Y[k].1), .v (.int .u32 Y[k].2.1), .v (.int .u32 Y[k].2.2)] := encs_at Vc.gpC_length hx
    generalize Y[k] = x at *
    have FX := And.intro hat hle
    repeat' (first | refine WK.seq ?_ | refine WK.reg ?_ | refine IL.nil ?_ | refine WK.skip ?_ | refine WK.block ?_ | refine WK.exit_here ?_ | refine WK.e1 ?_ | refine WK.e2 ?_ | refine WK.drawnS (id := 6) mixed [] [2, 5] [0, 0, 0, 0, 0, 1, 2, 2] [0, 0, 0, 1, 1, 1, 2, 2] (by decide +kernel) ?_ | refine WK.drawnS (id := 7) mixed [] [2, 5, 10, 13] [0, 0, 0, 0, 0, 1, 2, 2, 2, 2, 2, 2, 2, 3, 4, 4, 4, 4, 4, 4, 4, 4, 4] [0, 0, 0, 1, 1, 1, 2, 2, 2, 2, 2, 3, 3, 3, 4, 4, 4, 4, 4, 4, 4, 4, 4] (by decide +kernel) ?_ | refine WK.drawnS (id := 12) mixed [] [] [] [] (by decide +kernel) ?_ | refine DW.nil ?_ | (with_reducible refine IL.wr ?_ ?_; focus exact cW) | (with_reducible refine DW.wr ?_ ?_; focus exact cW) | refine IL.sgF ttok ?_ | refine IL.nn ?_ | refine DW.reF ttok ?_ | refine DW.rmF ttok ?_ | refine DW.nn ?_ | refine DW.nb ?_ | refine IL.cSGF hgf ttok ent7 [] true ?_ (hS := by exact anchor10) | refine IL.cSF ttok ent8 [.bor] true ?_ (hS := by exact hsma) | refine IL.cSF ttok ent9 [.bor] false ?_ (hS := by exact href) | refine IL.cSF ttok ent10 [.bor] true ?_ (hS := by exact hf2) | refine IL.cSF ttok ent17 [.bor] false ?_ (hS := by exact hdep) | refine IL.cSF ttok ent18 [.bor] true ?_ (hS := by exact hrr) | refine DW.cSF ttok ent19 [.bor, .bor] false ?_ (hS := by exact hnd) | refine DW.cSF ttok ent20 [.bor, .bor] false ?_ (hS := by exact hrn) | refine DW.cSF ttok ent21 [.bor, .bor] true ?_ (hS := by exact hre) | refine DW.cSF ttok ent22 [.bor, .bor] true ?_ (hS := by exact hrre) | refine DW.cSF ttok ent23 [.bor, .bor] true ?_ (hS := by exact hpa) | refine DW.cSF ttok ent24 [.bor, .bor] true ?_ (hS := by exact hrpa) | refine IL.cSF ttok ent25 [.bor] true ?_ (hS := by exact hato) | refine IL.cSF ttok ent26 [.bor, .bor] true ?_ (hS := by exact hatm) | ((first | ((first | refine IL.ag (fun h => ?_) (fun h => ?_) | refine DW.ag (fun h => ?_) (fun h => ?_) | refine IL.ap (fun h => ?_) (fun h => ?_) | refine DW.ap (fun h => ?_) (fun h => ?_)); (fail_if_success (focus (simp only [reduceCtorEq] at h)))) | refine WK.cn (fun h => ?_) (fun h => ?_)); all_goals first | (simp only [reduceCtorEq] at h; done) | (simp only [hsA, hsD, hsE, ne_eq] at h; first | done | (exfalso; omega; done) | skip) | skip))
    all_goals try ((first | refine WK.ret ⟨.inr rfl, ?_⟩ | refine ⟨.inl rfl, ?_⟩ | refine ⟨.inl trivial, ?_⟩); refine Fin.o ?_ ?_ (h1 := by first | rfl | (simp only [go_sem, show Tryz.f6.results.toList = [.tmp 6] from rfl, reduceIte] <;> rfl)); rotate_left 1; (focus (first | rfl | skip)); all_goals try with_reducible rfl)
    refine ⟨trivial, ?_⟩
    (refine Weak.renS [0, 1] hfx rfl ?_ ?_ rfl <;> (simp only [go_sem, reduceIte, exists_eq_left', exists_eq_left, Blk.mk.injEq, enT, enL] <;> (try and_intros) <;> first | rfl | omega))
  repeat' (first | refine WK.seq ?_ | refine WK.reg ?_ | refine IL.nil ?_ | refine WK.skip ?_ | refine WK.block ?_ | refine WK.exit_here ?_ | refine WK.e1 ?_ | refine WK.e2 ?_ | refine WK.drawnS (id := 6) mixed [] [2, 5] [0, 0, 0, 0, 0, 1, 2, 2] [0, 0, 0, 1, 1, 1, 2, 2] (by decide +kernel) ?_ | refine WK.drawnS (id := 7) mixed [] [2, 5, 10, 13] [0, 0, 0, 0, 0, 1, 2, 2, 2, 2, 2, 2, 2, 3, 4, 4, 4, 4, 4, 4, 4, 4, 4] [0, 0, 0, 1, 1, 1, 2, 2, 2, 2, 2, 3, 3, 3, 4, 4, 4, 4, 4, 4, 4, 4, 4] (by decide +kernel) ?_ | refine WK.drawnS (id := 12) mixed [] [] [] [] (by decide +kernel) ?_ | refine DW.nil ?_ | (with_reducible refine IL.wr ?_ ?_; focus exact cW) | (with_reducible refine DW.wr ?_ ?_; focus exact cW) | refine IL.sg ttok ?_ | refine IL.nn ?_ | refine DW.re ttok ?_ | refine DW.rm ttok ?_ | refine DW.nn ?_ | refine DW.nb ?_ | refine IL.cSG hgf ttok ent7 [] true ?_ (hS := by exact anchor10) | refine IL.cS ttok ent8 [.bor] true ?_ (hS := by exact hsma) | refine IL.cS ttok ent9 [.bor] false ?_ (hS := by exact href) | refine IL.cS ttok ent10 [.bor] true ?_ (hS := by exact hf2) | refine IL.cS ttok ent17 [.bor] false ?_ (hS := by exact hdep) | refine IL.cS ttok ent18 [.bor] true ?_ (hS := by exact hrr) | refine DW.cS ttok ent19 [.bor, .bor] false ?_ (hS := by exact hnd) | refine DW.cS ttok ent20 [.bor, .bor] false ?_ (hS := by exact hrn) | refine DW.cS ttok ent21 [.bor, .bor] true ?_ (hS := by exact hre) | refine DW.cS ttok ent22 [.bor, .bor] true ?_ (hS := by exact hrre) | refine DW.cS ttok ent23 [.bor, .bor] true ?_ (hS := by exact hpa) | refine DW.cS ttok ent24 [.bor, .bor] true ?_ (hS := by exact hrpa) | refine IL.cS ttok ent25 [.bor] true ?_ (hS := by exact hato) | refine IL.cS ttok ent26 [.bor, .bor] true ?_ (hS := by exact hatm) | ((first | ((first | refine IL.ag (fun h => ?_) (fun h => ?_) | refine DW.ag (fun h => ?_) (fun h => ?_) | refine IL.ap (fun h => ?_) (fun h => ?_) | refine DW.ap (fun h => ?_) (fun h => ?_)); (fail_if_success (focus (simp only [reduceCtorEq] at h)))) | refine WK.cn (fun h => ?_) (fun h => ?_)); all_goals first | (simp only [reduceCtorEq] at h; done) | (simp only [hsA, hsD, hsE, ne_eq] at h; first | done | (exfalso; omega; done) | skip) | skip))
  refine WK.forS ops.length (fun k => True) (fun k => ⟨149, [(2, .v (.int .i64 i)), (3, .ptr 0 0 0), (7, .ptr 1 0 0), (12, .v (.int .i64 (cumN (ops.take k) : Int))), (90, .tr ops.length (encs opC ops)), (91, .v (.int .i64 ops.length)), (92, .v (.int .i64 k))], [some ⟨false, 0, 1, false, enT d r s c u ops, 0, false⟩, some ⟨false, 0, 1, false, enT d r s c u ops, 0, false⟩]⟩) ⟨trivial, ?_⟩ (fun k hk _ => ?_) (fun _ => ?_)
  · rw [List.take_zero, show cumN [] = 0 from rfl]
    (refine Weak.renS [0, 1] hfx rfl ?_ ?_ rfl <;> (simp only [go_sem, reduceIte, exists_eq_left', exists_eq_left, Blk.mk.injEq, enT, enL] <;> (try and_intros) <;> first | rfl | omega))
  · have hx : ops[k]? = some ops[k] := List.getElem?_eq_getElem hk
    have hck := hcnt _ (List.getElem_mem hk)
    have hcu := cumN_take ops k _ hx
    have hle : k * 7 + 7 ≤ ops.length * 7 := by omega
    have hne : encs opC ops ≠ [] := encs_ne opC_length (by decide) hx
    have hatc : ((encs opC ops).drop (k * 7)).take 7 = opC ops[k] := encs_at opC_length hx
    have hgo := fun j => atomGo_at ops k j _ hx
    have hcb := hcum k
    rw [hcu]
    clear hx hcu
    generalize cumN (ops.take k) = C at *
    generalize ops[k] = o at *
    obtain ⟨ok, or, on, om, ot, os, oq⟩ := o
    obtain ⟨⟨k1, k2, k3⟩, k4, k5⟩ := hck
    have hato := atoms_call ok or on om oq ot os os.length rfl k1 k2 k3
    unfold aN at k4 k5 hgo ⊢
    simp only at k1 k2 k3 k4 k5 hgo hato ⊢
    generalize atoms ok ot os = A at *
    simp only [opC] at hatc
    have FX := And.intro hatc hle
    repeat' (first | refine WK.seq ?_ | refine WK.reg ?_ | refine IL.nil ?_ | refine WK.skip ?_ | refine WK.block ?_ | refine WK.exit_here ?_ | refine WK.e1 ?_ | refine WK.e2 ?_ | refine WK.drawnS (id := 6) mixed [] [2, 5] [0, 0, 0, 0, 0, 1, 2, 2] [0, 0, 0, 1, 1, 1, 2, 2] (by decide +kernel) ?_ | refine WK.drawnS (id := 7) mixed [] [2, 5, 10, 13] [0, 0, 0, 0, 0, 1, 2, 2, 2, 2, 2, 2, 2, 3, 4, 4, 4, 4, 4, 4, 4, 4, 4] [0, 0, 0, 1, 1, 1, 2, 2, 2, 2, 2, 3, 3, 3, 4, 4, 4, 4, 4, 4, 4, 4, 4] (by decide +kernel) ?_ | refine WK.drawnS (id := 12) mixed [] [] [] [] (by decide +kernel) ?_ | refine DW.nil ?_ | (with_reducible refine IL.wr ?_ ?_; focus exact cW) | (with_reducible refine DW.wr ?_ ?_; focus exact cW) | refine IL.sgF ttok ?_ | refine IL.nn ?_ | refine DW.reF ttok ?_ | refine DW.rmF ttok ?_ | refine DW.nn ?_ | refine DW.nb ?_ | refine IL.cSGF hgf ttok ent7 [] true ?_ (hS := by exact anchor10) | refine IL.cSF ttok ent8 [.bor] true ?_ (hS := by exact hsma) | refine IL.cSF ttok ent9 [.bor] false ?_ (hS := by exact href) | refine IL.cSF ttok ent10 [.bor] true ?_ (hS := by exact hf2) | refine IL.cSF ttok ent17 [.bor] false ?_ (hS := by exact hdep) | refine IL.cSF ttok ent18 [.bor] true ?_ (hS := by exact hrr) | refine DW.cSF ttok ent19 [.bor, .bor] false ?_ (hS := by exact hnd) | refine DW.cSF ttok ent20 [.bor, .bor] false ?_ (hS := by exact hrn) | refine DW.cSF ttok ent21 [.bor, .bor] true ?_ (hS := by exact hre) | refine DW.cSF ttok ent22 [.bor, .bor] true ?_ (hS := by exact hrre) | refine DW.cSF ttok ent23 [.bor, .bor] true ?_ (hS := by exact hpa) | refine DW.cSF ttok ent24 [.bor, .bor] true ?_ (hS := by exact hrpa) | refine IL.cSF ttok ent25 [.bor] true ?_ (hS := by exact hato) | refine IL.cSF ttok ent26 [.bor, .bor] true ?_ (hS := by exact hatm) | ((first | ((first | refine IL.ag (fun h => ?_) (fun h => ?_) | refine DW.ag (fun h => ?_) (fun h => ?_) | refine IL.ap (fun h => ?_) (fun h => ?_) | refine DW.ap (fun h => ?_) (fun h => ?_)); (fail_if_success (focus (simp only [reduceCtorEq] at h)))) | refine WK.cn (fun h => ?_) (fun h => ?_)); all_goals first | (simp only [reduceCtorEq] at h; done) | (simp only [hsA, hsD, hsE, ne_eq] at h; first | done | (exfalso; omega; done) | skip) | skip))
    refine WK.forS A (fun j => True) (fun j => ⟨149, [(2, .v (.int .i64 i)), (3, .ptr 0 0 0), (7, .ptr 1 0 0), (12, .v (.int .i64 ((C + j : Nat) : Int))), (14, .ptr 2 0 0), (90, .tr ops.length (encs opC ops)), (91, .v (.int .i64 ops.length)), (92, .v (.int .i64 k)), (97, .v (.int .i64 A)), (98, .v (.int .i64 j))], [some ⟨false, 0, 1, false, enT d r s c u ops, 0, false⟩, some ⟨false, 0, 1, false, enT d r s c u ops, 0, false⟩, some ⟨false, 0, 1, false, opL ok or on om ot (.tr os.length (encs spC os)) oq, 0, false⟩]⟩) ⟨trivial, ?_⟩ (fun j hj _ => ?_) (fun _ => ?_)
    · rw [Nat.add_zero]
      (refine Weak.renS [0, 1, 3] hfx rfl ?_ ?_ rfl <;> (simp only [go_sem, reduceIte, exists_eq_left', exists_eq_left, Blk.mk.injEq, enT, enL, opL] <;> (try and_intros) <;> first | rfl | omega))
    · have hm := k5 (by omega)
      have hatm := hatom ((C + j : Nat) : Int)
      rw [show ((C + j : Nat) : Int) = (C : Int) + (j : Int) from by omega, hgo j hj (by omega)] at hatm
      simp only [atomR] at hatm
      rw [wrap_u32 (show (0 : Int) ≤ (j : Int) by omega) (by omega), wrap_u32 (show 0 ≤ om + (j : Int) by omega) (by omega)] at hatm
      rw [show ((C + j : Nat) : Int) = (C : Int) + (j : Int) from by omega]
      repeat' (first | refine WK.seq ?_ | refine WK.reg ?_ | refine IL.nil ?_ | refine WK.skip ?_ | refine WK.block ?_ | refine WK.exit_here ?_ | refine WK.e1 ?_ | refine WK.e2 ?_ | refine WK.drawnS (id := 6) mixed [] [2, 5] [0, 0, 0, 0, 0, 1, 2, 2] [0, 0, 0, 1, 1, 1, 2, 2] (by decide +kernel) ?_ | refine WK.drawnS (id := 7) mixed [] [2, 5, 10, 13] [0, 0, 0, 0, 0, 1, 2, 2, 2, 2, 2, 2, 2, 3, 4, 4, 4, 4, 4, 4, 4, 4, 4] [0, 0, 0, 1, 1, 1, 2, 2, 2, 2, 2, 3, 3, 3, 4, 4, 4, 4, 4, 4, 4, 4, 4] (by decide +kernel) ?_ | refine WK.drawnS (id := 12) mixed [] [] [] [] (by decide +kernel) ?_ | refine DW.nil ?_ | (with_reducible refine IL.wr ?_ ?_; focus exact cW) | (with_reducible refine DW.wr ?_ ?_; focus exact cW) | refine IL.sg ttok ?_ | refine IL.nn ?_ | refine DW.re ttok ?_ | refine DW.rm ttok ?_ | refine DW.nn ?_ | refine DW.nb ?_ | refine IL.cSG hgf ttok ent7 [] true ?_ (hS := by exact anchor10) | refine IL.cS ttok ent8 [.bor] true ?_ (hS := by exact hsma) | refine IL.cS ttok ent9 [.bor] false ?_ (hS := by exact href) | refine IL.cS ttok ent10 [.bor] true ?_ (hS := by exact hf2) | refine IL.cS ttok ent17 [.bor] false ?_ (hS := by exact hdep) | refine IL.cS ttok ent18 [.bor] true ?_ (hS := by exact hrr) | refine DW.cS ttok ent19 [.bor, .bor] false ?_ (hS := by exact hnd) | refine DW.cS ttok ent20 [.bor, .bor] false ?_ (hS := by exact hrn) | refine DW.cS ttok ent21 [.bor, .bor] true ?_ (hS := by exact hre) | refine DW.cS ttok ent22 [.bor, .bor] true ?_ (hS := by exact hrre) | refine DW.cS ttok ent23 [.bor, .bor] true ?_ (hS := by exact hpa) | refine DW.cS ttok ent24 [.bor, .bor] true ?_ (hS := by exact hrpa) | refine IL.cS ttok ent25 [.bor] true ?_ (hS := by exact hato) | refine IL.cS ttok ent26 [.bor, .bor] true ?_ (hS := by exact hatm) | ((first | ((first | refine IL.ag (fun h => ?_) (fun h => ?_) | refine DW.ag (fun h => ?_) (fun h => ?_) | refine IL.ap (fun h => ?_) (fun h => ?_) | refine DW.ap (fun h => ?_) (fun h => ?_)); (fail_if_success (focus (simp only [reduceCtorEq] at h)))) | refine WK.cn (fun h => ?_) (fun h => ?_)); all_goals first | (simp only [reduceCtorEq] at h; done) | (simp only [hsA, hsD, hsE, ne_eq] at h; first | done | (exfalso; omega; done) | skip) | skip))
      all_goals try ((first | refine WK.ret ⟨.inr rfl, ?_⟩ | refine ⟨.inl rfl, ?_⟩ | refine ⟨.inl trivial, ?_⟩); refine Fin.o ?_ ?_ (h1 := by first | rfl | (simp only [go_sem, show Tryz.f6.results.toList = [.tmp 6] from rfl, reduceIte] <;> rfl)); rotate_left 1; (focus (first | rfl | skip)); all_goals try with_reducible rfl)
      refine ⟨trivial, ?_⟩
      rw [show ((C + (j + 1) : Nat) : Int) = (C : Int) + (j : Int) + 1 from by omega]
      (refine Weak.renS [0, 1, 2] hfx rfl ?_ ?_ rfl <;> (simp only [go_sem, reduceIte, exists_eq_left', exists_eq_left, Blk.mk.injEq, enT, enL, opL] <;> (try and_intros) <;> first | rfl | omega))
    · repeat' (first | refine WK.seq ?_ | refine WK.reg ?_ | refine IL.nil ?_ | refine WK.skip ?_ | refine WK.block ?_ | refine WK.exit_here ?_ | refine WK.e1 ?_ | refine WK.e2 ?_ | refine WK.drawnS (id := 6) mixed [] [2, 5] [0, 0, 0, 0, 0, 1, 2, 2] [0, 0, 0, 1, 1, 1, 2, 2] (by decide +kernel) ?_ | refine WK.drawnS (id := 7) mixed [] [2, 5, 10, 13] [0, 0, 0, 0, 0, 1, 2, 2, 2, 2, 2, 2, 2, 3, 4, 4, 4, 4, 4, 4, 4, 4, 4] [0, 0, 0, 1, 1, 1, 2, 2, 2, 2, 2, 3, 3, 3, 4, 4, 4, 4, 4, 4, 4, 4, 4] (by decide +kernel) ?_ | refine WK.drawnS (id := 12) mixed [] [] [] [] (by decide +kernel) ?_ | refine DW.nil ?_ | (with_reducible refine IL.wr ?_ ?_; focus exact cW) | (with_reducible refine DW.wr ?_ ?_; focus exact cW) | refine IL.sg ttok ?_ | refine IL.nn ?_ | refine DW.re ttok ?_ | refine DW.rm ttok ?_ | refine DW.nn ?_ | refine DW.nb ?_ | refine IL.cSG hgf ttok ent7 [] true ?_ (hS := by exact anchor10) | refine IL.cS ttok ent8 [.bor] true ?_ (hS := by exact hsma) | refine IL.cS ttok ent9 [.bor] false ?_ (hS := by exact href) | refine IL.cS ttok ent10 [.bor] true ?_ (hS := by exact hf2) | refine IL.cS ttok ent17 [.bor] false ?_ (hS := by exact hdep) | refine IL.cS ttok ent18 [.bor] true ?_ (hS := by exact hrr) | refine DW.cS ttok ent19 [.bor, .bor] false ?_ (hS := by exact hnd) | refine DW.cS ttok ent20 [.bor, .bor] false ?_ (hS := by exact hrn) | refine DW.cS ttok ent21 [.bor, .bor] true ?_ (hS := by exact hre) | refine DW.cS ttok ent22 [.bor, .bor] true ?_ (hS := by exact hrre) | refine DW.cS ttok ent23 [.bor, .bor] true ?_ (hS := by exact hpa) | refine DW.cS ttok ent24 [.bor, .bor] true ?_ (hS := by exact hrpa) | refine IL.cS ttok ent25 [.bor] true ?_ (hS := by exact hato) | refine IL.cS ttok ent26 [.bor, .bor] true ?_ (hS := by exact hatm) | ((first | ((first | refine IL.ag (fun h => ?_) (fun h => ?_) | refine DW.ag (fun h => ?_) (fun h => ?_) | refine IL.ap (fun h => ?_) (fun h => ?_) | refine DW.ap (fun h => ?_) (fun h => ?_)); (fail_if_success (focus (simp only [reduceCtorEq] at h)))) | refine WK.cn (fun h => ?_) (fun h => ?_)); all_goals first | (simp only [reduceCtorEq] at h; done) | (simp only [hsA, hsD, hsE, ne_eq] at h; first | done | (exfalso; omega; done) | skip) | skip))
      refine ⟨trivial, ?_⟩
      (refine Weak.renS [0, 1] hfx rfl ?_ ?_ rfl <;> (simp only [go_sem, reduceIte, exists_eq_left', exists_eq_left, Blk.mk.injEq, enT, enL] <;> (try and_intros) <;> first | rfl | omega))
  · rw [List.take_length]
    have hcb := hcum ops.length
    rw [List.take_length] at hcb
    have hatm := hatom i
    by_cases hin : 0 ≤ i ∧ i < (cumN ops : Int)
    · obtain ⟨m, j, hs⟩ := atomGo_some ops i (by omega) hin.1 hin.2
      rw [hs] at hatm
      simp only [atomR] at hatm
      generalize cumN ops = C at *
      generalize IntKind.u32.wrap (m + IntKind.u32.wrap j) = M at *
      repeat' (first | refine WK.seq ?_ | refine WK.reg ?_ | refine IL.nil ?_ | refine WK.skip ?_ | refine WK.block ?_ | refine WK.exit_here ?_ | refine WK.e1 ?_ | refine WK.e2 ?_ | refine WK.drawnS (id := 6) mixed [] [2, 5] [0, 0, 0, 0, 0, 1, 2, 2] [0, 0, 0, 1, 1, 1, 2, 2] (by decide +kernel) ?_ | refine WK.drawnS (id := 7) mixed [] [2, 5, 10, 13] [0, 0, 0, 0, 0, 1, 2, 2, 2, 2, 2, 2, 2, 3, 4, 4, 4, 4, 4, 4, 4, 4, 4] [0, 0, 0, 1, 1, 1, 2, 2, 2, 2, 2, 3, 3, 3, 4, 4, 4, 4, 4, 4, 4, 4, 4] (by decide +kernel) ?_ | refine WK.drawnS (id := 12) mixed [] [] [] [] (by decide +kernel) ?_ | refine DW.nil ?_ | (with_reducible refine IL.wr ?_ ?_; focus exact cW) | (with_reducible refine DW.wr ?_ ?_; focus exact cW) | refine IL.sg ttok ?_ | refine IL.nn ?_ | refine DW.re ttok ?_ | refine DW.rm ttok ?_ | refine DW.nn ?_ | refine DW.nb ?_ | refine IL.cSG hgf ttok ent7 [] true ?_ (hS := by exact anchor10) | refine IL.cS ttok ent8 [.bor] true ?_ (hS := by exact hsma) | refine IL.cS ttok ent9 [.bor] false ?_ (hS := by exact href) | refine IL.cS ttok ent10 [.bor] true ?_ (hS := by exact hf2) | refine IL.cS ttok ent17 [.bor] false ?_ (hS := by exact hdep) | refine IL.cS ttok ent18 [.bor] true ?_ (hS := by exact hrr) | refine DW.cS ttok ent19 [.bor, .bor] false ?_ (hS := by exact hnd) | refine DW.cS ttok ent20 [.bor, .bor] false ?_ (hS := by exact hrn) | refine DW.cS ttok ent21 [.bor, .bor] true ?_ (hS := by exact hre) | refine DW.cS ttok ent22 [.bor, .bor] true ?_ (hS := by exact hrre) | refine DW.cS ttok ent23 [.bor, .bor] true ?_ (hS := by exact hpa) | refine DW.cS ttok ent24 [.bor, .bor] true ?_ (hS := by exact hrpa) | refine IL.cS ttok ent25 [.bor] true ?_ (hS := by exact hato) | refine IL.cS ttok ent26 [.bor, .bor] true ?_ (hS := by exact hatm) | ((first | ((first | refine IL.ag (fun h => ?_) (fun h => ?_) | refine DW.ag (fun h => ?_) (fun h => ?_) | refine IL.ap (fun h => ?_) (fun h => ?_) | refine DW.ap (fun h => ?_) (fun h => ?_)); (fail_if_success (focus (simp only [reduceCtorEq] at h)))) | refine WK.cn (fun h => ?_) (fun h => ?_)); all_goals first | (simp only [reduceCtorEq] at h; done) | (simp only [hsA, hsD, hsE, ne_eq] at h; first | done | (exfalso; omega; done) | skip) | skip))
      all_goals try ((first | refine WK.ret ⟨.inr rfl, ?_⟩ | refine ⟨.inl rfl, ?_⟩ | refine ⟨.inl trivial, ?_⟩); refine Fin.o ?_ ?_ (h1 := by first | rfl | (simp only [go_sem, show Tryz.f6.results.toList = [.tmp 6] from rfl, reduceIte] <;> rfl)); rotate_left 1; (focus (first | rfl | skip)); all_goals try with_reducible rfl)
      all_goals (exfalso; simp at h; omega)
    · have hs := atomGo_none ops i (by omega) hi.1 hi.2 (by omega)
      rw [hs] at hatm
      simp only [atomR] at hatm
      generalize cumN ops = C at *
      repeat' (first | refine WK.seq ?_ | refine WK.reg ?_ | refine IL.nil ?_ | refine WK.skip ?_ | refine WK.block ?_ | refine WK.exit_here ?_ | refine WK.e1 ?_ | refine WK.e2 ?_ | refine WK.drawnS (id := 6) mixed [] [2, 5] [0, 0, 0, 0, 0, 1, 2, 2] [0, 0, 0, 1, 1, 1, 2, 2] (by decide +kernel) ?_ | refine WK.drawnS (id := 7) mixed [] [2, 5, 10, 13] [0, 0, 0, 0, 0, 1, 2, 2, 2, 2, 2, 2, 2, 3, 4, 4, 4, 4, 4, 4, 4, 4, 4] [0, 0, 0, 1, 1, 1, 2, 2, 2, 2, 2, 3, 3, 3, 4, 4, 4, 4, 4, 4, 4, 4, 4] (by decide +kernel) ?_ | refine WK.drawnS (id := 12) mixed [] [] [] [] (by decide +kernel) ?_ | refine DW.nil ?_ | (with_reducible refine IL.wr ?_ ?_; focus exact cW) | (with_reducible refine DW.wr ?_ ?_; focus exact cW) | refine IL.sg ttok ?_ | refine IL.nn ?_ | refine DW.re ttok ?_ | refine DW.rm ttok ?_ | refine DW.nn ?_ | refine DW.nb ?_ | refine IL.cSG hgf ttok ent7 [] true ?_ (hS := by exact anchor10) | refine IL.cS ttok ent8 [.bor] true ?_ (hS := by exact hsma) | refine IL.cS ttok ent9 [.bor] false ?_ (hS := by exact href) | refine IL.cS ttok ent10 [.bor] true ?_ (hS := by exact hf2) | refine IL.cS ttok ent17 [.bor] false ?_ (hS := by exact hdep) | refine IL.cS ttok ent18 [.bor] true ?_ (hS := by exact hrr) | refine DW.cS ttok ent19 [.bor, .bor] false ?_ (hS := by exact hnd) | refine DW.cS ttok ent20 [.bor, .bor] false ?_ (hS := by exact hrn) | refine DW.cS ttok ent21 [.bor, .bor] true ?_ (hS := by exact hre) | refine DW.cS ttok ent22 [.bor, .bor] true ?_ (hS := by exact hrre) | refine DW.cS ttok ent23 [.bor, .bor] true ?_ (hS := by exact hpa) | refine DW.cS ttok ent24 [.bor, .bor] true ?_ (hS := by exact hrpa) | refine IL.cS ttok ent25 [.bor] true ?_ (hS := by exact hato) | refine IL.cS ttok ent26 [.bor, .bor] true ?_ (hS := by exact hatm) | ((first | ((first | refine IL.ag (fun h => ?_) (fun h => ?_) | refine DW.ag (fun h => ?_) (fun h => ?_) | refine IL.ap (fun h => ?_) (fun h => ?_) | refine DW.ap (fun h => ?_) (fun h => ?_)); (fail_if_success (focus (simp only [reduceCtorEq] at h)))) | refine WK.cn (fun h => ?_) (fun h => ?_)); all_goals first | (simp only [reduceCtorEq] at h; done) | (simp only [hsA, hsD, hsE, ne_eq] at h; first | done | (exfalso; omega; done) | skip) | skip))
      all_goals try ((first | refine WK.ret ⟨.inr rfl, ?_⟩ | refine ⟨.inl rfl, ?_⟩ | refine ⟨.inl trivial, ?_⟩); refine Fin.o ?_ ?_ (h1 := by first | rfl | (simp only [go_sem, show Tryz.f6.results.toList = [.tmp 6] from rfl, reduceIte] <;> rfl)); rotate_left 1; (focus (first | rfl | skip)); all_goals try with_reducible rfl)
      all_goals (exfalso; simp at h; omega)
end Go.Proofs.YtclhjcbnpdlgbaaGreatDoor
