import Derived.Test.YtclhjcbnpdlgbaaGreatDoorLXCQB
set_option linter.unusedVariables false
set_option linter.unusedSimpArgs false
/- package wire: an envelope that can be, read again from its bytes. -/
namespace Go.Proofs.YtclhjcbnpdlgbaaGreatDoor
open Go Go.Lift
set_option maxHeartbeats 4000000
set_option linter.unusedSimpArgs false
set_option linter.unusedVariables false

theorem depsGo_at : ∀ (rest out : List Vc.Ve) (pre W tail : List UInt8), (∀ x ∈ rest, dbd x) → W = pre ++ (depsB rest ++ tail) → depsGo W rest.length out pre.length 0 = (out ++ rest, (pre ++ depsB rest).length, 0)
  | [], out, pre, W, tail, _, hW => by simp [depsGo, depsB]
  | x :: rest, out, pre, W, tail, hf, hW => by
    obtain ⟨x1, x2⟩ := x
    have hx := hf (x1, x2) (by simp)
    unfold dbd at hx
    simp only at hx
    obtain ⟨a, rfl⟩ := Int.eq_ofNat_of_zero_le hx.1.1
    obtain ⟨b, rfl⟩ := Int.eq_ofNat_of_zero_le hx.2.1
    have hW2 : W = pre ++ (numB a ++ (numB b ++ (depsB rest ++ tail))) := by rw [hW]; simp [depsB, depB]
    have h1 := rN W pre a (numB b ++ (depsB rest ++ tail)) 65535 hW2 (by omega) (by omega)
    have h2 := rN W (pre ++ numB a) b (depsB rest ++ tail) 268435456 (by rw [hW2]; simp) (by omega) (by omega)
    have ih := depsGo_at rest (out ++ [((a : Int), (b : Int))]) (pre ++ numB a ++ numB b) W tail (fun y hy => hf y (by simp [hy])) (by rw [hW2]; simp)
    rw [List.length_cons, depsGo_of h1 h2, if_pos rfl, ih]
    simp [depsB, depB]
theorem rTx_at (pre : List UInt8) (r s c u : Nat) (ops : List OpV) (hr : r ≤ 65535) (hs : s ≤ 268435456) (hc : c ≤ 1099511627776) (hu : u ≤ 7) (hl : ops.length ≤ 16) (ho : ∀ o ∈ ops, goodO o) :
    rTx (pre ++ (hdB r s c u ops.length ++ opsB ops)) pre.length 0 = (⟨r, s, c, u, ops⟩, (pre ++ (hdB r s c u ops.length ++ opsB ops)).length, 0) := by
  have e : pre ++ (hdB r s c u ops.length ++ opsB ops) = pre ++ (numB r ++ numB s ++ numB c ++ numB u ++ numB ops.length ++ opsB ops) := rfl
  generalize pre ++ (hdB r s c u ops.length ++ opsB ops) = W at *
  have h1 := rN W pre r (numB s ++ (numB c ++ (numB u ++ (numB ops.length ++ opsB ops)))) 65535 (by rw [e]; simp) (by omega) hr
  have h2 := rN W (pre ++ numB r) s (numB c ++ (numB u ++ (numB ops.length ++ opsB ops))) 268435456 (by rw [e]; simp) (by omega) hs
  have h3 := rN W (pre ++ numB r ++ numB s) c (numB u ++ (numB ops.length ++ opsB ops)) 1099511627776 (by rw [e]; simp) (by omega) hc
  have h4 := rN W (pre ++ numB r ++ numB s ++ numB c) u (numB ops.length ++ opsB ops) 7 (by rw [e]; simp) (by omega) hu
  have h5 := rN W (pre ++ numB r ++ numB s ++ numB c ++ numB u) ops.length (opsB ops) 16 (by rw [e]; simp) (by omega) hl
  have h6 := opsGo_at ops [] (pre ++ numB r ++ numB s ++ numB c ++ numB u ++ numB ops.length) W ho (by rw [e]; simp)
  rw [rTx_of h1 h2 h3 h4 h5, h6]
  simp [txF]
theorem be4_inv (N : Nat) (h : N < 4294967296) (x y z w : UInt8) (hb : be4 (N : Int) = [x, y, z, w]) : word4 x.toNat y.toNat z.toNat w.toNat = N := by
  rw [← be4_ref N h] at hb
  have h8 : ∀ (M : Nat) (v : UInt8), b8 (M : Int) = v → v.toNat = M % 256 := fun M v hv => by
    have := b8_toNat (M : Int)
    rw [hv] at this
    have e : IntKind.u8.wrap (M : Int) = ((M % 256 : Nat) : Int) := by
      rw [show ((M % 256 : Nat) : Int) = (M : Int) % 256 from by omega]
      rfl
    rw [e] at this
    omega
  have t1 : Int.tdiv (N : Int) 16777216 = ((N / 16777216 : Nat) : Int) := by rw [Int.tdiv_eq_ediv_of_nonneg (by omega)]; omega
  have t2 : Int.tmod (Int.tdiv (N : Int) 65536) 256 = ((N / 65536 % 256 : Nat) : Int) := by rw [Int.tdiv_eq_ediv_of_nonneg (by omega), Int.tmod_eq_emod_of_nonneg (by omega)]; omega
  have t3 : Int.tmod (Int.tdiv (N : Int) 256) 256 = ((N / 256 % 256 : Nat) : Int) := by rw [Int.tdiv_eq_ediv_of_nonneg (by omega), Int.tmod_eq_emod_of_nonneg (by omega)]; omega
  have t4 : Int.tmod (N : Int) 256 = ((N % 256 : Nat) : Int) := by rw [Int.tmod_eq_emod_of_nonneg (by omega)]; omega
  rw [t1, t2, t3, t4] at hb
  simp only [List.cons.injEq, and_true] at hb
  obtain ⟨q1, q2, q3, q4⟩ := hb
  have e1 := h8 _ _ q1
  have e2 := h8 _ _ q2
  have e3 := h8 _ _ q3
  have e4 := h8 _ _ q4
  unfold word4
  omega
theorem sealed_facts (d : List Vc.Ve) (r s c u : Nat) (ops : List OpV) (b : List UInt8) (hb : b = sealB (encB d r s c u ops)) (hl : (bodyB d r s c u ops).length ≤ 300000) :
    b.length = (bodyB d r s c u ops).length + 11 ∧ b.take 3 = [67, 80, 1] ∧ (∀ m x, lenW (b.take (m + 7) ++ x) = b.length) ∧ isSealed b = true ∧ (b.take (b.length - 4)).drop 7 = bodyB d r s c u ops := by
  obtain ⟨s1, s2, s3⟩ := seal_sealed (encB d r s c u ops)
  rw [← hb] at s1 s2 s3
  have hE : (encB d r s c u ops).length = (bodyB d r s c u ops).length + 7 := by unfold encB; simp only [List.length_append, be4_len, List.length_cons, List.length_nil]; omega
  have hlen : b.length = (bodyB d r s c u ops).length + 11 := by omega
  obtain ⟨x, y, z, w, hbe⟩ : ∃ x y z w, be4 (((bodyB d r s c u ops).length + 11 : Nat) : Int) = [x, y, z, w] := ⟨_, _, _, _, rfl⟩
  have hw := be4_inv _ (by omega) x y z w hbe
  have hb2 : ∃ T, b = 67 :: 80 :: 1 :: x :: y :: z :: w :: T := by
    have : encB d r s c u ops = 67 :: 80 :: 1 :: x :: y :: z :: w :: bodyB d r s c u ops := by
      unfold encB
      rw [show (((bodyB d r s c u ops).length : Int) + 11) = (((bodyB d r s c u ops).length + 11 : Nat) : Int) from rfl, hbe]; rfl
    rw [hb, sealB, this]
    exact ⟨_, rfl⟩
  refine ⟨hlen, ?_, ?_, s1, ?_⟩
  · obtain ⟨T, hT⟩ := hb2
    rw [hT]; rfl
  · intro m t
    obtain ⟨T, hT⟩ := hb2
    rw [hlen, ← hw, hT]
    rfl
  · rw [s2]
    have e : encB d r s c u ops = ([67, 80, 1] ++ be4 ((bodyB d r s c u ops).length + 11)) ++ bodyB d r s c u ops := rfl
    rw [e]
    have hl7 : ([67, 80, 1] ++ be4 ((bodyB d r s c u ops).length + 11)).length = 7 := by simp only [List.length_append, be4_len, List.length_cons, List.length_nil]
    rw [← hl7, List.drop_left]
theorem env_good {d : List Vc.Ve} {r s c u : Int} {ops : List OpV} (hw : wfD d) (hr : 0 ≤ r ∧ r ≤ 65535) (hwo : ∀ o ∈ ops, wfC o) (hwr : ∀ o ∈ ops, (0 ≤ o.r ∧ o.r ≤ 65535) ∧ ∀ x ∈ o.s, 0 ≤ x.1 ∧ x.1 ≤ 65535) (hsm : d.length ≤ 100 ∧ smallT ops) (h0 : fit10 d r s c u ops = 0) :
    ∃ a b e f : Nat, r = a ∧ s = b ∧ c = e ∧ u = f ∧ a ≤ 65535 ∧ b ≤ 268435456 ∧ e ≤ 1099511627776 ∧ f ≤ 7 ∧ ops.length ≤ 16 ∧ (∀ o ∈ ops, goodO o) ∧ (∀ x ∈ d, dbd x) ∧ (bodyB d a b e f ops).length ≤ 300000 := by
  obtain ⟨f1, f2, f3⟩ := fit10_ok h0
  obtain ⟨g1, g2, g3, g4, g5, g6, g7, g8, g9⟩ := fit9_ok f3
  obtain ⟨a, rfl⟩ := Int.eq_ofNat_of_zero_le hr.1
  obtain ⟨b, rfl⟩ := Int.eq_ofNat_of_zero_le (show 0 ≤ s by omega)
  obtain ⟨e, rfl⟩ := Int.eq_ofNat_of_zero_le (show 0 ≤ c by omega)
  obtain ⟨f, rfl⟩ := Int.eq_ofNat_of_zero_le (show 0 ≤ u by omega)
  have hgood : ∀ o ∈ ops, goodO o := fun o ho => by
    have h1 := hsm.2.2 o ho
    unfold smallO at h1
    exact goodO_of (hwr o ho).1 (hwo o ho) (hwr o ho).2 (by omega) (g9 o ho)
  refine ⟨a, b, e, f, rfl, rfl, rfl, rfl, by omega, by omega, by omega, by omega, g8, hgood, fun x hx => ?_, ?_⟩
  · have h1 := hw x hx
    have h2 := (Vc.rightB_inv f1).2 x hx
    unfold dbd
    omega
  · have l0 := numB_le 9 d.length (by omega)
    have l1 := numB_le 9 a (by omega)
    have l2 := numB_le 9 b (by omega)
    have l3 := numB_le 9 e (by omega)
    have l4 := numB_le 9 f (by omega)
    have l5 := numB_le 9 ops.length (by omega)
    have l6 := opsB_lenS ops (fun o ho => goodO_ok (hgood o ho)) fun o ho => (hsm.2.2 o ho).2
    have l7 := depsB_len d hw
    unfold bodyB hdB
    simp only [List.length_append]; omega
theorem decode_good (d : List Vc.Ve) (r s c u : Nat) (ops : List OpV) (hd : d.length ≤ 100) (hr : r ≤ 65535) (hs : s ≤ 268435456) (hc : c ≤ 1099511627776) (hu : u ≤ 7) (hl : ops.length ≤ 16) (ho : ∀ o ∈ ops, goodO o) (hdb : ∀ x ∈ d, dbd x) (hlen : (bodyB d r s c u ops).length ≤ 300000)
    (hwo : ∀ o ∈ ops, wfC o) (hsz : ∀ o ∈ ops, o.t.length ≤ 1000 ∧ o.s.length ≤ 1024) (h0 : fit10 d r s c u ops = 0) (b : List UInt8) (hb : b = sealB (encB d r s c u ops)) :
    SCallG GT Tryz.prog 13 [.tr b.length (bcells b)] (.tup [.agg (enT d r s c u ops), .v (.int .i64 0)]) [.tr b.length (bcells b)] := by
  obtain ⟨q1, q2, q3, q4, q5⟩ := sealed_facts d r s c u ops b hb hlen
  have hL : lenW b = b.length := by have := q3 (b.length) []; rwa [List.append_nil, List.take_of_length_le (by omega)] at this
  have hfr := frame_sealed b (by omega) (by omega) q2 hL
  rw [if_pos q4, q5, show b.length - 11 = (bodyB d r s c u ops).length by omega] at hfr
  have hwd : wfD d := fun x hx => by have := hdb x hx; unfold dbd at this; omega
  have hfi := cFit10_call d r s c u ops (by omega) hwd (by omega) (by omega) hsz hwo
  rw [h0] at hfi
  have e : bodyB d r s c u ops = numB d.length ++ (depsB d ++ (hdB r s c u ops.length ++ opsB ops)) := by unfold bodyB; simp
  have hn := rN (bodyB d r s c u ops) [] d.length (depsB d ++ (hdB r s c u ops.length ++ opsB ops)) 65536 (by rw [e]; simp) (by omega) (by omega)
  have hG := depsGo_at d [] (numB d.length) (bodyB d r s c u ops) (hdB r s c u ops.length ++ opsB ops) hdb e
  have hT := rTx_at (numB d.length ++ depsB d) r s c u ops hr hs hc hu hl ho
  rw [← show bodyB d r s c u ops = numB d.length ++ depsB d ++ (hdB r s c u ops.length ++ opsB ops) from rfl] at hT
  have hdec := decode_call b (bodyB d r s c u ops) (by omega) hfr d.length ([] ++ numB d.length).length 0 hn d (numB d.length ++ depsB d).length 0 (by simpa using hG)
    (by rw [e]; simp only [List.length_append]; omega) ⟨r, s, c, u, ops⟩ (bodyB d r s c u ops).length 0 hT (Nat.le_refl _) 0 0 (by rw [if_neg (fun h => Nat.lt_irrefl _ h.2)]) hfi
  rw [if_pos rfl, if_pos rfl] at hdec
  exact SCallG.frz hdec rfl
end Go.Proofs.YtclhjcbnpdlgbaaGreatDoor
/- WireBytes: its function. -/
namespace Go.Proofs.YtclhjcbnpdlgbaaGreatDoor
open Go Go.Lift
set_option maxHeartbeats 4000000
set_option linter.unusedSimpArgs false
set_option linter.unusedVariables false
attribute [local irreducible] WK IL IP IG IW DW

open Classical in
theorem wireBytes_call (d : List Vc.Ve) (r s c u : Int) (ops : List OpV) (hd8 : d.length * 8 ≤ 140737488355328) (hl72 : ops.length * 72 ≤ 140737488355328) (h16 : ∀ o ∈ ops, o.s.length * 16 ≤ 140737488355328) (ht : ∀ o ∈ ops, o.t.length ≤ 9223372036854775807 ∧ o.s.length ≤ 9223372036854775807)
    (hw : wfD d) (hr : 0 ≤ r ∧ r ≤ 65535) (hwo : ∀ o ∈ ops, wfC o) (hwr : ∀ o ∈ ops, (0 ≤ o.r ∧ o.r ≤ 65535) ∧ ∀ x ∈ o.s, 0 ≤ x.1 ∧ x.1 ≤ 65535) :
    SCallG GT Tryz.prog 3 [.agg (enT d r s c u ops)] (.v (.bool true)) [.agg (enT d r s c u ops)] := by
  have hsma := small10_call d r s c u ops (by omega) (by omega) ht
  have href := ref10_frz d r s c u ops hd8 hl72 h16
  by_cases hsm : d.length ≤ 100 ∧ smallT ops
  · rw [decide_eq_true hsm] at hsma
    have hsz : ∀ o ∈ ops, o.t.length ≤ 1000 ∧ o.s.length ≤ 1024 := fun o ho => by have := hsm.2.2 o ho; unfold smallO at this; omega
    have hf1 := cFit10_call d r s c u ops (by omega) hw hr hsm.2.1 hsz hwo
    have hf2 := rFit10_call d r s c u ops (by omega) hw hsm.2.1 hsz hwo
    by_cases h0 : fit10 d r s c u ops = 0
    · have hsa := same10_call d r s c u ops hd8 hl72 h16
      obtain ⟨a, b, e, f, rfl, rfl, rfl, rfl, e1, e2, e3, e4, e5, e6, e7, e8⟩ := env_good hw hr hwo hwr hsm h0
      rw [h0] at hf1 hf2
      have hen := encode_ok d a b e f ops hsm.1 hw (by omega) (by omega) (by omega) (by omega) (by omega) (fun o ho => goodO_ok (e6 o ho)) e8 hf1
      have hrb := refB10_call d a b e f ops (by omega) hw (by omega) (by omega) (by omega) (by omega) (by omega) (fun o ho => goodO_ok (e6 o ho))
      have hde := decode_good d a b e f ops hsm.1 e1 e2 e3 e4 e5 e6 e7 e8 hwo hsz h0 _ rfl
      have hS := (sealed_facts d a b e f ops _ rfl e8).1
      rw [← (seal_sealed (encB d a b e f ops)).2.2] at hen hrb
      generalize sealB (encB d a b e f ops) = S at *
      refine SCallG.of_body' (G := GT) (TT := TT) (fun _ => false) [false] ttok Tryz.func3 rfl (Nat.le_of_ble_eq_true rfl) rfl fun fx hfx hgf => WK.top ?_
      simp only [impl, imp, argT, List.append_nil, List.map_nil, List.nil_append, show Tryz.f3.ntmps = 63 from rfl, Nat.zero_add, Nat.reduceAdd]
      repeat' (first | refine WK.seq ?_ | refine WK.reg ?_ | refine IL.nil ?_ | refine WK.skip ?_ | refine WK.drawnS (id := 13) mixed [] [3, 13] [0, 0, 0, 0, 1, 1, 1, 1, 1, 1, 1, 1, 1, 1, 2, 2] [1, 1, 0, 0, 1, 1, 1, 1, 1, 1, 1, 1, 1, 1, 2, 2] (by decide +kernel) ?_ | refine DW.nil ?_ | (with_reducible refine IL.wr ?_ ?_; focus exact cW) | (with_reducible refine DW.wr ?_ ?_; focus exact cW) | refine IL.sg ttok ?_ | refine IL.nn ?_ | refine DW.re ttok ?_ | refine DW.rm ttok ?_ | refine DW.nn ?_ | refine DW.nb ?_ | refine IL.cSG hgf ttok ent7 [] true ?_ (hS := by exact anchor10) | refine IL.cS ttok ent8 [.bor] true ?_ (hS := by exact hsma) | refine IL.cS ttok ent9 [.bor] false ?_ (hS := by exact href) | refine IL.cS ttok ent10 [.bor] true ?_ (hS := by exact hf2) | refine IL.cSG hgf ttok ent11 [.bor] true ?_ (hS := by exact hen) | refine IL.cSG hgf ttok ent12 [.bor] true ?_ (hS := by exact hf1) | refine IL.cSG hgf ttok ent13 [.bor] false ?_ (hS := by exact hde) | refine DW.cS ttok ent14 [.bor] true ?_ (hS := by exact hrb) | refine DW.cS ttok ent15 [.bor, .bor] true ?_ (hS := by exact hsa) | ((first | ((first | refine IL.ag (fun h => ?_) (fun h => ?_) | refine DW.ag (fun h => ?_) (fun h => ?_) | refine IL.ap (fun h => ?_) (fun h => ?_) | refine DW.ap (fun h => ?_) (fun h => ?_)); (fail_if_success (focus (simp only [reduceCtorEq] at h)))) | refine WK.cn (fun h => ?_) (fun h => ?_)); all_goals first | (simp only [reduceCtorEq] at h; done) | (simp only [hsA, hsD, hsE, ne_eq] at h; first | done | (exfalso; omega; done) | skip) | skip))
      all_goals try ((first | refine WK.ret ⟨.inr rfl, ?_⟩ | refine ⟨.inl rfl, ?_⟩ | refine ⟨.inl trivial, ?_⟩); refine Fin.o ?_ ?_ (h1 := by first | rfl | (simp only [go_sem, show Tryz.f3.results.toList = [.tmp 2] from rfl, reduceIte] <;> rfl)); rotate_left 1; (focus (first | rfl | skip)); all_goals try with_reducible rfl)
      all_goals skip
    · have hen := encode_bad d r s c u ops _ h0 hf1
      generalize fit10 d r s c u ops = F at *
      refine SCallG.of_body' (G := GT) (TT := TT) (fun _ => false) [false] ttok Tryz.func3 rfl (Nat.le_of_ble_eq_true rfl) rfl fun fx hfx hgf => WK.top ?_
      simp only [impl, imp, argT, List.append_nil, List.map_nil, List.nil_append, show Tryz.f3.ntmps = 63 from rfl, Nat.zero_add, Nat.reduceAdd]
      repeat' (first | refine WK.seq ?_ | refine WK.reg ?_ | refine IL.nil ?_ | refine WK.skip ?_ | refine WK.drawnS (id := 13) mixed [] [3, 13] [0, 0, 0, 0, 1, 1, 1, 1, 1, 1, 1, 1, 1, 1, 2, 2] [1, 1, 0, 0, 1, 1, 1, 1, 1, 1, 1, 1, 1, 1, 2, 2] (by decide +kernel) ?_ | refine DW.nil ?_ | (with_reducible refine IL.wr ?_ ?_; focus exact cW) | (with_reducible refine DW.wr ?_ ?_; focus exact cW) | refine IL.sg ttok ?_ | refine IL.nn ?_ | refine DW.re ttok ?_ | refine DW.rm ttok ?_ | refine DW.nn ?_ | refine DW.nb ?_ | refine IL.cSG hgf ttok ent7 [] true ?_ (hS := by exact anchor10) | refine IL.cS ttok ent8 [.bor] true ?_ (hS := by exact hsma) | refine IL.cS ttok ent9 [.bor] false ?_ (hS := by exact href) | refine IL.cS ttok ent10 [.bor] true ?_ (hS := by exact hf2) | refine IL.cSG hgf ttok ent11 [.bor] true ?_ (hS := by exact hen) | refine IL.cSG hgf ttok ent12 [.bor] true ?_ (hS := by exact hf1) | refine IL.cSG hgf ttok ent13 [.bor] false ?_ (hS := by exact hde) | refine DW.cS ttok ent14 [.bor] true ?_ (hS := by exact hrb) | refine DW.cS ttok ent15 [.bor, .bor] true ?_ (hS := by exact hsa) | ((first | ((first | refine IL.ag (fun h => ?_) (fun h => ?_) | refine DW.ag (fun h => ?_) (fun h => ?_) | refine IL.ap (fun h => ?_) (fun h => ?_) | refine DW.ap (fun h => ?_) (fun h => ?_)); (fail_if_success (focus (simp only [reduceCtorEq] at h)))) | refine WK.cn (fun h => ?_) (fun h => ?_)); all_goals first | (simp only [reduceCtorEq] at h; done) | (simp only [hsA, hsD, hsE, ne_eq] at h; first | done | (exfalso; omega; done) | skip) | skip))
      all_goals try ((first | refine WK.ret ⟨.inr rfl, ?_⟩ | refine ⟨.inl rfl, ?_⟩ | refine ⟨.inl trivial, ?_⟩); refine Fin.o ?_ ?_ (h1 := by first | rfl | (simp only [go_sem, show Tryz.f3.results.toList = [.tmp 2] from rfl, reduceIte] <;> rfl)); rotate_left 1; (focus (first | rfl | skip)); all_goals try with_reducible rfl)
      all_goals skip
  · rw [decide_eq_false hsm] at hsma
    refine SCallG.of_body' (G := GT) (TT := TT) (fun _ => false) [false] ttok Tryz.func3 rfl (Nat.le_of_ble_eq_true rfl) rfl fun fx hfx hgf => WK.top ?_
    simp only [impl, imp, argT, List.append_nil, List.map_nil, List.nil_append, show Tryz.f3.ntmps = 63 from rfl, Nat.zero_add, Nat.reduceAdd]
    repeat' (first | refine WK.seq ?_ | refine WK.reg ?_ | refine IL.nil ?_ | refine WK.skip ?_ | refine WK.drawnS (id := 13) mixed [] [3, 13] [0, 0, 0, 0, 1, 1, 1, 1, 1, 1, 1, 1, 1, 1, 2, 2] [1, 1, 0, 0, 1, 1, 1, 1, 1, 1, 1, 1, 1, 1, 2, 2] (by decide +kernel) ?_ | refine DW.nil ?_ | (with_reducible refine IL.wr ?_ ?_; focus exact cW) | (with_reducible refine DW.wr ?_ ?_; focus exact cW) | refine IL.sg ttok ?_ | refine IL.nn ?_ | refine DW.re ttok ?_ | refine DW.rm ttok ?_ | refine DW.nn ?_ | refine DW.nb ?_ | refine IL.cSG hgf ttok ent7 [] true ?_ (hS := by exact anchor10) | refine IL.cS ttok ent8 [.bor] true ?_ (hS := by exact hsma) | refine IL.cS ttok ent9 [.bor] false ?_ (hS := by exact href) | refine IL.cS ttok ent10 [.bor] true ?_ (hS := by exact hf2) | refine IL.cSG hgf ttok ent11 [.bor] true ?_ (hS := by exact hen) | refine IL.cSG hgf ttok ent12 [.bor] true ?_ (hS := by exact hf1) | refine IL.cSG hgf ttok ent13 [.bor] false ?_ (hS := by exact hde) | refine DW.cS ttok ent14 [.bor] true ?_ (hS := by exact hrb) | refine DW.cS ttok ent15 [.bor, .bor] true ?_ (hS := by exact hsa) | ((first | ((first | refine IL.ag (fun h => ?_) (fun h => ?_) | refine DW.ag (fun h => ?_) (fun h => ?_) | refine IL.ap (fun h => ?_) (fun h => ?_) | refine DW.ap (fun h => ?_) (fun h => ?_)); (fail_if_success (focus (simp only [reduceCtorEq] at h)))) | refine WK.cn (fun h => ?_) (fun h => ?_)); all_goals first | (simp only [reduceCtorEq] at h; done) | (simp only [hsA, hsD, hsE, ne_eq] at h; first | done | (exfalso; omega; done) | skip) | skip))
    all_goals try ((first | refine WK.ret ⟨.inr rfl, ?_⟩ | refine ⟨.inl rfl, ?_⟩ | refine ⟨.inl trivial, ?_⟩); refine Fin.o ?_ ?_ (h1 := by first | rfl | (simp only [go_sem, show Tryz.f3.results.toList = [.tmp 2] from rfl, reduceIte] <;> rfl)); rotate_left 1; (focus (first | rfl | skip)); all_goals try with_reducible rfl)
    all_goals skip
end Go.Proofs.YtclhjcbnpdlgbaaGreatDoor
