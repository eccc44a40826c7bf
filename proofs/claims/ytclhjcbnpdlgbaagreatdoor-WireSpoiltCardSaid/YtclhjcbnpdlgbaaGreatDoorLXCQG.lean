import Derived.Test.YtclhjcbnpdlgbaaGreatDoorLXCQB
set_option linter.unusedVariables false
set_option linter.unusedSimpArgs false
/- package wire: an envelope that can be, read again from its bytes. -/
namespace Go.Proofs.YtclhjcbnpdlgbaaGreatDoor
open Go Go.Lift
set_option maxHeartbeats 4000000
set_option linter.unusedSimpArgs false
set_option linter.unusedVariables false

theorem depsGo_at : ∀ (rest out : List Vc.Ve) (pre W tail : List UInt8), (∀ x ∈ rest, dbd x) → W = pre ++ (depsB rest ++ tail) → depsGo W rest.length out pre.length 0 = (out ++ rest, (pre ++ depsB rest).length, 0)
  | [], out, pre, W, tail, _, hW => by simp [depsGo, depsB]
  | x :: rest, out, pre, W, tail, hf, hW => by
    obtain ⟨x1, x2⟩ := x
    have hx := hf (x1, x2) (by simp)
    unfold dbd at hx
    simp only at hx
    obtain ⟨a, rfl⟩ := Int.eq_ofNat_of_zero_le hx.1.1
    obtain ⟨b, rfl⟩ := Int.eq_ofNat_of_zero_le hx.2.1
    have hW2 : W = pre ++ (numB a ++ (numB b ++ (depsB rest ++ tail))) := by rw [hW]; simp [depsB, depB]
    have h1 := rN W pre a (numB b ++ (depsB rest ++ tail)) 65535 hW2 (by omega) (by omega)
    have h2 := rN W (pre ++ numB a) b (depsB rest ++ tail) 268435456 (by rw [hW2]; simp) (by omega) (by omega)
    have ih := depsGo_at rest (out ++ [((a : Int), (b : Int))]) (pre ++ numB a ++ numB b) W tail (fun y hy => hf y (by simp [hy])) (by rw [hW2]; simp)
    rw [List.length_cons, depsGo_of h1 h2, if_pos rfl, ih]
    simp [depsB, depB]
theorem rTx_at (pre : List UInt8) (r s c u : Nat) (ops : List OpV) (hr : r ≤ 65535) (hs : s ≤ 268435456) (hc : c ≤ 1099511627776) (hu : u ≤ 7) (hl : ops.length ≤ 16) (ho : ∀ o ∈ ops, goodO o) :
    rTx (pre ++ (hdB r s c u ops.length ++ opsB ops)) pre.length 0 = (⟨r, s, c, u, ops⟩, (pre ++ (hdB r s c u ops.length ++ opsB ops)).length, 0) := by
  have e : pre ++ (hdB r s c u ops.length ++ opsB ops) = pre ++ (numB r ++ numB s ++ numB c ++ numB u ++ numB ops.length ++ opsB ops) := rfl
  generalize pre ++ (hdB r s c u ops.length ++ opsB ops) = W at *
  have h1 := rN W pre r (numB s ++ (numB c ++ (numB u ++ (numB ops.length ++ opsB ops)))) 65535 (by rw [e]; simp) (by omega) hr
  have h2 := rN W (pre ++ numB r) s (numB c ++ (numB u ++ (numB ops.length ++ opsB ops))) 268435456 (by rw [e]; simp) (by omega) hs
  have h3 := rN W (pre ++ numB r ++ numB s) c (numB u ++ (numB ops.length ++ opsB ops)) 1099511627776 (by rw [e]; simp) (by omega) hc
  have h4 := rN W (pre ++ numB r ++ numB s ++ numB c) u (numB ops.length ++ opsB ops) 7 (by rw [e]; simp) (by omega) hu
  have h5 := rN W (pre ++ numB r ++ numB s ++ numB c ++ numB u) ops.length (opsB ops) 16 (by rw [e]; simp) (by omega) hl
  have h6 := opsGo_at ops [] (pre ++ numB r ++ numB s ++ numB c ++ numB u ++ numB ops.length) W ho (by rw [e]; simp)
  rw [rTx_of h1 h2 h3 h4 h5, h6]
  simp [txF]
theorem be4_inv (N : Nat) (h : N < 4294967296) (x y z w : UInt8) (hb : be4 (N : Int) = [x, y, z, w]) : word4 x.toNat y.toNat z.toNat w.toNat = N := by
  rw [← be4_ref N h] at hb
  have h8 : ∀ (M : Nat) (v : UInt8), b8 (M : Int) = v → v.toNat = M % 256 := fun M v hv => by
    have := b8_toNat (M : Int)
    rw [hv] at this
    have e : IntKind.u8.wrap (M : Int) = ((M % 256 : Nat) : Int) := by
      rw [show ((M % 256 : Nat) : Int) = (M : Int) % 256 from by omega]
      rfl
    rw [e] at this
    omega
  have t1 : Int.tdiv (N : Int) 16777216 = ((N / 16777216 : Nat) : Int) := by rw [Int.tdiv_eq_ediv_of_nonneg (by omega)]; omega
  have t2 : Int.tmod (Int.tdiv (N : Int) 65536) 256 = ((N / 65536 % 256 : Nat) : Int) := by rw [Int.tdiv_eq_ediv_of_nonneg (by omega), Int.tmod_eq_emod_of_nonneg (by omega)]; omega
  have t3 : Int.tmod (Int.tdiv (N : Int) 256) 256 = ((N / 256 % 256 : Nat) : Int) := by rw [Int.tdiv_eq_ediv_of_nonneg (by omega), Int.tmod_eq_emod_of_nonneg (by omega)]; omega
  have t4 : Int.tmod (N : Int) 256 = ((N % 256 : Nat) : Int) := by rw [Int.tmod_eq_emod_of_nonneg (by omega)]; omega
  rw [t1, t2, t3, t4] at hb
  simp only [List.cons.injEq, and_true] at hb
  obtain ⟨q1, q2, q3, q4⟩ := hb
  have e1 := h8 _ _ q1
  have e2 := h8 _ _ q2
  have e3 := h8 _ _ q3
  have e4 := h8 _ _ q4
  unfold word4
  omega
theorem sealed_facts (d : List Vc.Ve) (r s c u : Nat) (ops : List OpV) (b : List UInt8) (hb : b = sealB (encB d r s c u ops)) (hl : (bodyB d r s c u ops).length ≤ 300000) :
    b.length = (bodyB d r s c u ops).length + 11 ∧ b.take 3 = [67, 80, 1] ∧ (∀ m x, lenW (b.take (m + 7) ++ x) = b.length) ∧ isSealed b = true ∧ (b.take (b.length - 4)).drop 7 = bodyB d r s c u ops := by
  obtain ⟨s1, s2, s3⟩ := seal_sealed (encB d r s c u ops)
  rw [← hb] at s1 s2 s3
  have hE : (encB d r s c u ops).length = (bodyB d r s c u ops).length + 7 := by unfold encB; simp only [List.length_append, be4_len, List.length_cons, List.length_nil]; omega
  have hlen : b.length = (bodyB d r s c u ops).length + 11 := by omega
  obtain ⟨x, y, z, w, hbe⟩ : ∃ x y z w, be4 (((bodyB d r s c u ops).length + 11 : Nat) : Int) = [x, y, z, w] := ⟨_, _, _, _, rfl⟩
  have hw := be4_inv _ (by omega) x y z w hbe
  have hb2 : ∃ T, b = 67 :: 80 :: 1 :: x :: y :: z :: w :: T := by
    have : encB d r s c u ops = 67 :: 80 :: 1 :: x :: y :: z :: w :: bodyB d r s c u ops := by
      unfold encB
      rw [show (((bodyB d r s c u ops).length : Int) + 11) = (((bodyB d r s c u ops).length + 11 : Nat) : Int) from rfl, hbe]; rfl
    rw [hb, sealB, this]
    exact ⟨_, rfl⟩
  refine ⟨hlen, ?_, ?_, s1, ?_⟩
  · obtain ⟨T, hT⟩ := hb2
    rw [hT]; rfl
  · intro m t
    obtain ⟨T, hT⟩ := hb2
    rw [hlen, ← hw, hT]
    rfl
  · rw [s2]
    have e : encB d r s c u ops = ([67, 80, 1] ++ be4 ((bodyB d r s c u ops).length + 11)) ++ bodyB d r s c u ops := rfl
    rw [e]
    have hl7 : ([67, 80, 1] ++ be4 ((bodyB d r s c u ops).length + 11)).length = 7 := by simp only [List.length_append, be4_len, List.length_cons, List.length_nil]
    rw [← hl7, List.drop_left]
theorem env_good {d : List Vc.Ve} {r s c u : Int} {ops : List OpV} (hw : wfD d) (hr : 0 ≤ r ∧ r ≤ 65535) (hwo : ∀ o ∈ ops, wfC o) (hwr : ∀ o ∈ ops, (0 ≤ o.r ∧ o.r ≤ 65535) ∧ ∀ x ∈ o.s, 0 ≤ x.1 ∧ x.1 ≤ 65535) (hsm : d.length ≤ 100 ∧ smallT ops) (h0 : fit10 d r s c u ops = 0) :
    ∃ a b e f : Nat, r = a ∧ s = b ∧ c = e ∧ u = f ∧ a ≤ 65535 ∧ b ≤ 268435456 ∧ e ≤ 1099511627776 ∧ f ≤ 7 ∧ ops.length ≤ 16 ∧ (∀ o ∈ ops, goodO o) ∧ (∀ x ∈ d, dbd x) ∧ (bodyB d a b e f ops).length ≤ 300000 := by
  obtain ⟨f1, f2, f3⟩ := fit10_ok h0
  obtain ⟨g1, g2, g3, g4, g5, g6, g7, g8, g9⟩ := fit9_ok f3
  obtain ⟨a, rfl⟩ := Int.eq_ofNat_of_zero_le hr.1
  obtain ⟨b, rfl⟩ := Int.eq_ofNat_of_zero_le (show 0 ≤ s by omega)
  obtain ⟨e, rfl⟩ := Int.eq_ofNat_of_zero_le (show 0 ≤ c by omega)
  obtain ⟨f, rfl⟩ := Int.eq_ofNat_of_zero_le (show 0 ≤ u by omega)
  have hgood : ∀ o ∈ ops, goodO o := fun o ho => by
    have h1 := hsm.2.2 o ho
    unfold smallO at h1
    exact goodO_of (hwr o ho).1 (hwo o ho) (hwr o ho).2 (by omega) (g9 o ho)
  refine ⟨a, b, e, f, rfl, rfl, rfl, rfl, by omega, by omega, by omega, by omega, g8, hgood, fun x hx => ?_, ?_⟩
  · have h1 := hw x hx
    have h2 := (Vc.rightB_inv f1).2 x hx
    unfold dbd
    omega
  · have l0 := numB_le 9 d.length (by omega)
    have l1 := numB_le 9 a (by omega)
    have l2 := numB_le 9 b (by omega)
    have l3 := numB_le 9 e (by omega)
    have l4 := numB_le 9 f (by omega)
    have l5 := numB_le 9 ops.length (by omega)
    have l6 := opsB_lenS ops (fun o ho => goodO_ok (hgood o ho)) fun o ho => (hsm.2.2 o ho).2
    have l7 := depsB_len d hw
    unfold bodyB hdB
    simp only [List.length_append]; omega
theorem decode_good (d : List Vc.Ve) (r s c u : Nat) (ops : List OpV) (hd : d.length ≤ 100) (hr : r ≤ 65535) (hs : s ≤ 268435456) (hc : c ≤ 1099511627776) (hu : u ≤ 7) (hl : ops.length ≤ 16) (ho : ∀ o ∈ ops, goodO o) (hdb : ∀ x ∈ d, dbd x) (hlen : (bodyB d r s c u ops).length ≤ 300000)
    (hwo : ∀ o ∈ ops, wfC o) (hsz : ∀ o ∈ ops, o.t.length ≤ 1000 ∧ o.s.length ≤ 1024) (h0 : fit10 d r s c u ops = 0) (b : List UInt8) (hb : b = sealB (encB d r s c u ops)) :
    SCallG GT Tryz.prog 13 [.tr b.length (bcells b)] (.tup [.agg (enT d r s c u ops), .v (.int .i64 0)]) [.tr b.length (bcells b)] := by
  obtain ⟨q1, q2, q3, q4, q5⟩ := sealed_facts d r s c u ops b hb hlen
  have hL : lenW b = b.length := by have := q3 (b.length) []; rwa [List.append_nil, List.take_of_length_le (by omega)] at this
  have hfr := frame_sealed b (by omega) (by omega) q2 hL
  rw [if_pos q4, q5, show b.length - 11 = (bodyB d r s c u ops).length by omega] at hfr
  have hwd : wfD d := fun x hx => by have := hdb x hx; unfold dbd at this; omega
  have hfi := cFit10_call d r s c u ops (by omega) hwd (by omega) (by omega) hsz hwo
  rw [h0] at hfi
  have e : bodyB d r s c u ops = numB d.length ++ (depsB d ++ (hdB r s c u ops.length ++ opsB ops)) := by unfold bodyB; simp
  have hn := rN (bodyB d r s c u ops) [] d.length (depsB d ++ (hdB r s c u ops.length ++ opsB ops)) 65536 (by rw [e]; simp) (by omega) (by omega)
  have hG := depsGo_at d [] (numB d.length) (bodyB d r s c u ops) (hdB r s c u ops.length ++ opsB ops) hdb e
  have hT := rTx_at (numB d.length ++ depsB d) r s c u ops hr hs hc hu hl ho
  rw [← show bodyB d r s c u ops = numB d.length ++ depsB d ++ (hdB r s c u ops.length ++ opsB ops) from rfl] at hT
  have hdec := decode_call b (bodyB d r s c u ops) (by omega) hfr d.length ([] ++ numB d.length).length 0 hn d (numB d.length ++ depsB d).length 0 (by simpa using hG)
    (by rw [e]; simp only [List.length_append]; omega) ⟨r, s, c, u, ops⟩ (bodyB d r s c u ops).length 0 hT (Nat.le_refl _) 0 0 (by rw [if_neg (fun h => Nat.lt_irrefl _ h.2)]) hfi
  rw [if_pos rfl, if_pos rfl] at hdec
  exact SCallG.frz hdec rfl
end Go.Proofs.YtclhjcbnpdlgbaaGreatDoor
/- The plain law of CheckBursts: the sum is linear; a burst is seen. -/
namespace Go.Proofs.YtclhjcbnpdlgbaaGreatDoor
open Go Go.Lift

theorem xor_ne {a b : Nat} (h : a ^^^ b = 0) : a = b := by
  have : a ^^^ (a ^^^ b) = a := by rw [h]; simp
  rw [← Nat.xor_assoc, Nat.xor_self, Nat.zero_xor] at this
  exact this.symm
theorem turnNat_xor (a b : Nat) (ha : a < 4294967296) (hb : b < 4294967296) : turnNat (a ^^^ b) = turnNat a ^^^ turnNat b := by
  have e1 : (a ^^^ b) * 2 % 4294967296 = (a * 2 % 4294967296) ^^^ (b * 2 % 4294967296) := by
    have h := @Nat.shiftLeft_xor_distrib 1 a b
    simp only [Nat.shiftLeft_eq, Nat.pow_one] at h
    rw [h, show (4294967296 : Nat) = 2 ^ 32 from rfl, Nat.xor_mod_two_pow]
  have e2 : (a ^^^ b) / 2147483648 = (a / 2147483648) ^^^ (b / 2147483648) := by
    have h := @Nat.shiftRight_xor_distrib 31 a b
    simp only [Nat.shiftRight_eq_div_pow] at h
    exact h
  have ha' : a / 2147483648 = 0 ∨ a / 2147483648 = 1 := by omega
  have hb' : b / 2147483648 = 0 ∨ b / 2147483648 = 1 := by omega
  unfold turnNat
  rw [e1, e2]
  generalize a * 2 % 4294967296 = x
  generalize b * 2 % 4294967296 = y
  have c1 : (x ^^^ pnat) ^^^ (y ^^^ pnat) = x ^^^ y := by rw [Nat.xor_assoc, Nat.xor_comm pnat, Nat.xor_assoc, Nat.xor_self, Nat.xor_zero]
  have c2 : (x ^^^ pnat) ^^^ y = (x ^^^ y) ^^^ pnat := by rw [Nat.xor_assoc, Nat.xor_comm pnat, ← Nat.xor_assoc]
  rcases ha' with h | h <;> rcases hb' with g | g <;> rw [h, g]
  · simp
  · simp [Nat.xor_assoc]
  · simpa using c2.symm
  · simpa using c1.symm
theorem turnNs_xor : ∀ (n a b : Nat), a < 4294967296 → b < 4294967296 → turnNs n (a ^^^ b) = turnNs n a ^^^ turnNs n b
  | 0, _, _, _, _ => rfl
  | n + 1, a, b, ha, hb => by
    show turnNs n (turnNat _) = _
    rw [turnNat_xor a b ha hb, turnNs_xor n _ _ (turnNat_lt a) (turnNat_lt b)]; rfl
theorem turnNat_zero {a : Nat} (ha : a < 4294967296) (h : turnNat a = 0) : a = 0 := by
  unfold turnNat at h
  split at h
  · omega
  · have := xor_ne h
    unfold pnat at this; omega
theorem turnNs_zero : ∀ (n a : Nat), a < 4294967296 → turnNs n a = 0 → a = 0
  | 0, _, _, h => h
  | n + 1, a, ha, h => turnNat_zero ha (turnNs_zero n _ (turnNat_lt a) h)
theorem turnNs_nil (n : Nat) : turnNs n 0 = 0 := by
  induction n with
  | zero => rfl
  | succ n ih => exact ih
theorem turnNs_inj (n a b : Nat) (ha : a < 4294967296) (hb : b < 4294967296) (h : turnNs n a = turnNs n b) : a = b := by
  refine xor_ne (turnNs_zero n _ (Nat.xor_lt_two_pow (n := 32) ha hb) ?_)
  rw [turnNs_xor n a b ha hb, h, Nat.xor_self]
theorem turnNs_add : ∀ (m n s : Nat), turnNs (m + n) s = turnNs n (turnNs m s)
  | 0, n, s => by rw [Nat.zero_add]; rfl
  | m + 1, n, s => by rw [Nat.succ_add]; exact turnNs_add m n _
theorem turnNs_shift : ∀ (k a : Nat), a * 2 ^ k < 4294967296 → turnNs k a = a * 2 ^ k
  | 0, a, _ => by simp [turnNs]
  | k + 1, a, h => by
    have h2 : a * 2 * 2 ^ k = a * 2 ^ (k + 1) := by rw [Nat.pow_succ, Nat.mul_assoc, Nat.mul_comm 2]
    have hk : 1 ≤ 2 ^ k := Nat.one_le_two_pow
    have ha : a * 2 < 4294967296 := Nat.lt_of_le_of_lt (Nat.le_mul_of_pos_right _ hk) (by rw [h2]; exact h)
    have e : turnNat a = a * 2 := by unfold turnNat; rw [if_pos (by omega)]; omega
    show turnNs k (turnNat a) = _
    rw [e, turnNs_shift k _ (by rw [h2]; exact h), h2]
def g1 (s : Nat) (c : UInt8) : Nat := turnNs 8 (s ^^^ c.toNat * 16777216)
def gF (s : Nat) (l : List UInt8) : Nat := l.foldl g1 s
theorem g1_lt {s : Nat} (hs : s < 4294967296) (c : UInt8) : g1 s c < 4294967296 := turnNs_lt 8 _ (Nat.xor_lt_two_pow (n := 32) hs (by have := c.toNat_lt; omega))
theorem gF_lt : ∀ (l : List UInt8) {s : Nat}, s < 4294967296 → gF s l < 4294967296
  | [], _, h => h
  | c :: l, _, h => gF_lt l (g1_lt h c)
theorem sum1_g1 (s : Nat) (hs : s < 4294967296) (c : UInt8) : sum1 (s : Int) c = (g1 s c : Int) := by
  have hc : c.toNat < 256 := c.toNat_lt
  have e1 : IntKind.u32.wrap (IntKind.u32.wrap (c.toNat : Int) * 2 ^ min 24 32) = ((c.toNat * 16777216 : Nat) : Int) := by
    rw [IntKind.wrap_u32, IntKind.wrap_u32, show (2 : Int) ^ min 24 32 = 16777216 from rfl]; omega
  unfold sum1 g1
  rw [e1, bits_xor32 s _ hs (by omega), turnN_nat 8 _ (Nat.xor_lt_two_pow hs (by omega))]
theorem fold_gF : ∀ (l : List UInt8) (s : Nat), s < 4294967296 → l.foldl sum1 (s : Int) = (gF s l : Int)
  | [], s, _ => rfl
  | c :: l, s, h => by
    rw [List.foldl_cons, sum1_g1 s h c, fold_gF l _ (g1_lt h c)]; rfl
theorem sumB_gF (l : List UInt8) : sumB [l] = ((4294967295 ^^^ gF 4294967295 l : Nat) : Int) := by
  unfold sumB sumAll
  simp only [List.foldl_cons, List.foldl_nil]
  rw [show (4294967295 : Int) = ((4294967295 : Nat) : Int) from rfl, fold_gF l _ (by decide)]
  exact bits_xor32 4294967295 _ (by decide) (gF_lt l (by decide))
theorem xor_right (a b c : Nat) : (a ^^^ b) ^^^ c = (a ^^^ c) ^^^ b := by rw [Nat.xor_assoc, Nat.xor_comm b, ← Nat.xor_assoc]
theorem gF_lin : ∀ (l : List UInt8) (a b : Nat), a < 4294967296 → b < 4294967296 → gF (a ^^^ b) l = gF a l ^^^ turnNs (8 * l.length) b
  | [], a, b, _, _ => rfl
  | c :: l, a, b, ha, hb => by
    have hc : c.toNat < 256 := c.toNat_lt
    have e : g1 (a ^^^ b) c = g1 a c ^^^ turnNs 8 b := by
      unfold g1
      rw [xor_right, turnNs_xor 8 _ _ (Nat.xor_lt_two_pow (n := 32) ha (by omega)) hb]
    show gF (g1 (a ^^^ b) c) l = gF (g1 a c) l ^^^ _
    rw [e, gF_lin l _ _ (g1_lt ha c) (turnNs_lt 8 _ hb), List.length_cons, show 8 * (l.length + 1) = 8 + 8 * l.length by omega, turnNs_add]
theorem gF_set : ∀ (l : List UInt8) (s j : Nat) (c x : UInt8) (d : Nat), s < 4294967296 → l[j]? = some c → d < 256 → x.toNat = c.toNat ^^^ d → gF s (l.set j x) = gF s l ^^^ turnNs (8 * (l.length - j)) (d * 16777216)
  | [], s, j, c, x, d, _, h, _, _ => by simp at h
  | b :: l, s, 0, c, x, d, hs, h, hd, hx => by
    simp at h; subst h
    have hb : b.toNat < 256 := b.toNat_lt
    have e : g1 s x = g1 s b ^^^ turnNs 8 (d * 16777216) := by
      unfold g1
      have h2 := @Nat.shiftLeft_xor_distrib 24 b.toNat d
      simp only [Nat.shiftLeft_eq] at h2
      rw [hx, show (16777216 : Nat) = 2 ^ 24 from rfl, h2, ← Nat.xor_assoc]
      exact turnNs_xor 8 _ _ (Nat.xor_lt_two_pow (n := 32) hs (by omega)) (by omega)
    show gF (g1 s x) l = gF (g1 s b) l ^^^ _
    rw [e, gF_lin l _ _ (g1_lt hs b) (turnNs_lt 8 _ (by omega)), List.length_cons, show 8 * (l.length + 1 - 0) = 8 + 8 * l.length by omega, turnNs_add]
  | b :: l, s, j + 1, c, x, d, hs, h, hd, hx => by
    show gF (g1 s b) (l.set j x) = gF (g1 s b) l ^^^ _
    rw [gF_set l _ j c x d (g1_lt hs b) (by simpa using h) hd hx, List.length_cons, Nat.add_sub_add_right]
theorem gF_bit (l : List UInt8) (s k : Nat) (c x : UInt8) (hs : s < 4294967296) (hk : k < 8 * l.length) (h : l[k / 8]? = some c) (hx : x.toNat = c.toNat ^^^ 2 ^ (7 - k % 8)) : gF s (l.set (k / 8) x) = gF s l ^^^ turnNs (8 * l.length - k) 2147483648 := by
  have hp : ∀ r, r < 8 → 2 ^ (7 - r) < 256 ∧ turnNs r (2 ^ (7 - r) * 16777216) = 2147483648 := fun r hr => by
    have : r = 0 ∨ r = 1 ∨ r = 2 ∨ r = 3 ∨ r = 4 ∨ r = 5 ∨ r = 6 ∨ r = 7 := by omega
    rcases this with rfl | rfl | rfl | rfl | rfl | rfl | rfl | rfl <;> exact ⟨by decide, by decide⟩
  obtain ⟨h1, h2⟩ := hp (k % 8) (by omega)
  rw [gF_set l s (k / 8) c x _ hs h h1 hx, show 8 * (l.length - k / 8) = k % 8 + (8 * l.length - k) by omega, turnNs_add, h2]
theorem word4_xor (a b c d : Nat) (ha : a < 256) (hb : b < 256) (hc : c < 256) (hd : d < 256) : ((a * 16777216 ^^^ b * 65536) ^^^ c * 256) ^^^ d = word4 a b c d := by
  have key : ∀ (x y i : Nat), y < 2 ^ i → (2 ^ i * x) ^^^ y = 2 ^ i * x + y := fun x y i hy => by
    apply Nat.eq_of_testBit_eq
    intro j
    rw [Nat.testBit_xor, Nat.testBit_two_pow_mul_add x hy, Nat.testBit_two_pow_mul]
    by_cases hj : j < i
    · rw [if_pos hj]; simp [show ¬ i ≤ j by omega]
    · rw [if_neg hj]
      have : y.testBit j = false := Nat.testBit_lt_two_pow (Nat.lt_of_lt_of_le hy (Nat.pow_le_pow_right (by decide) (by omega)))
      simp [this, show i ≤ j by omega]
  have h1 : a * 16777216 ^^^ b * 65536 = 2 ^ 16 * (a * 256 + b) := by
    have := key a (b * 65536) 24 (by omega)
    rw [show a * 16777216 = 2 ^ 24 * a by omega, this]; omega
  have h2 : 2 ^ 16 * (a * 256 + b) ^^^ c * 256 = 2 ^ 8 * ((a * 256 + b) * 256 + c) := by
    rw [key _ _ 16 (by omega)]; omega
  rw [h1, h2, key _ _ 8 (by omega)]
  unfold word4; omega
theorem gF_four (r : Nat) (hr : r < 4294967296) (a b c d : UInt8) : gF r [a, b, c, d] = turnNs 32 (r ^^^ word4 a.toNat b.toNat c.toNat d.toNat) := by
  have ha : a.toNat < 256 := a.toNat_lt
  have hb : b.toNat < 256 := b.toNat_lt
  have hc : c.toNat < 256 := c.toNat_lt
  have hd : d.toNat < 256 := d.toNat_lt
  have e8 : (2 : Nat) ^ 8 = 256 := by decide
  have e16 : (2 : Nat) ^ 16 = 65536 := by decide
  have e24 : (2 : Nat) ^ 24 = 16777216 := by decide
  have eb : b.toNat * 16777216 = turnNs 8 (b.toNat * 65536) := by have h := turnNs_shift 8 (b.toNat * 65536) (by rw [e8]; omega); rw [h, e8, Nat.mul_assoc]
  have ec : c.toNat * 16777216 = turnNs 16 (c.toNat * 256) := by have h := turnNs_shift 16 (c.toNat * 256) (by rw [e16]; omega); rw [h, e16, Nat.mul_assoc]
  have ed : d.toNat * 16777216 = turnNs 24 d.toNat := by have h := turnNs_shift 24 d.toNat (by rw [e24]; omega); rw [h, e24]
  have l0 : r ^^^ a.toNat * 16777216 < 4294967296 := Nat.xor_lt_two_pow (n := 32) hr (by omega)
  have l1 : (r ^^^ a.toNat * 16777216) ^^^ b.toNat * 65536 < 4294967296 := Nat.xor_lt_two_pow (n := 32) l0 (by omega)
  have l2 : ((r ^^^ a.toNat * 16777216) ^^^ b.toNat * 65536) ^^^ c.toNat * 256 < 4294967296 := Nat.xor_lt_two_pow (n := 32) l1 (by omega)
  show turnNs 8 (turnNs 8 (turnNs 8 (turnNs 8 (r ^^^ a.toNat * 16777216) ^^^ b.toNat * 16777216) ^^^ c.toNat * 16777216) ^^^ d.toNat * 16777216) = _
  rw [eb, ← turnNs_xor 8 _ _ l0 (by omega), ← turnNs_add 8 8, ec, ← turnNs_xor 16 _ _ l1 (by omega), ← turnNs_add 16 8, ed, ← turnNs_xor 24 _ _ l2 (by omega), ← turnNs_add 24 8]
  rw [← word4_xor _ _ _ _ ha hb hc hd]
  simp only [Nat.xor_assoc]
theorem word4_lt (a b c d : UInt8) : word4 a.toNat b.toNat c.toNat d.toNat < 4294967296 := by
  have ha : a.toNat < 256 := a.toNat_lt
  have hb : b.toNat < 256 := b.toNat_lt
  have hc : c.toNat < 256 := c.toNat_lt
  have hd : d.toNat < 256 := d.toNat_lt
  unfold word4; omega
theorem sealed_gF (c : List UInt8) (h4 : 4 ≤ c.length) : isSealed c = true ↔ gF 4294967295 c = turnNs 32 4294967295 := by
  have hd : (c.drop (c.length - 4)).length = 4 := by rw [List.length_drop]; omega
  have hg : ∀ i, (c.drop (c.length - 4)).getD i 0 = c.getD (c.length - 4 + i) 0 := fun i => by simp [List.getD]
  have e := last4 _ hd
  rw [hg, hg, hg, hg, Nat.add_zero] at e
  have hr := gF_lt (c.take (c.length - 4)) (s := 4294967295) (by decide)
  have hF : gF 4294967295 c = turnNs 32 (gF 4294967295 (c.take (c.length - 4)) ^^^ word4 (c.getD (c.length - 4) 0).toNat (c.getD (c.length - 4 + 1) 0).toNat (c.getD (c.length - 4 + 2) 0).toNat (c.getD (c.length - 4 + 3) 0).toNat) := by
    rw [← gF_four _ hr, ← e]
    unfold gF
    rw [← List.foldl_append, List.take_append_drop]
  have hwl := word4_lt (c.getD (c.length - 4) 0) (c.getD (c.length - 4 + 1) 0) (c.getD (c.length - 4 + 2) 0) (c.getD (c.length - 4 + 3) 0)
  unfold isSealed
  rw [hF, wordAt_eq, sumB_gF, decide_eq_true h4, Bool.true_and, beq_iff_eq]
  generalize gF 4294967295 (c.take (c.length - 4)) = r at *
  generalize word4 _ _ _ _ = w at *
  constructor
  · intro h
    have h : w = 4294967295 ^^^ r := by exact_mod_cast h
    rw [h, Nat.xor_comm r, Nat.xor_assoc, Nat.xor_self, Nat.xor_zero]
  · intro h
    have h := turnNs_inj 32 _ _ (Nat.xor_lt_two_pow (n := 32) hr hwl) (by decide) h
    rw [← h, Nat.xor_comm r, Nat.xor_assoc, Nat.xor_self, Nat.xor_zero]
def acc (f : Nat) : Nat → Nat
  | 0 => 0
  | i + 1 => if f.testBit i = true then acc f i ^^^ 2 ^ (31 - i) else acc f i
theorem acc_lt (f : Nat) : ∀ i, acc f i < 4294967296
  | 0 => Nat.zero_lt_succ _
  | i + 1 => by
    unfold acc
    split
    · exact Nat.xor_lt_two_pow (n := 32) (acc_lt f i) (Nat.pow_lt_pow_right (by decide) (by omega))
    · exact acc_lt f i
theorem acc_bit (f : Nat) : ∀ i, i ≤ 32 → ∀ j, j < 32 → (acc f i).testBit (31 - j) = (decide (j < i) && f.testBit j)
  | 0, _, j, _ => by simp [acc]
  | i + 1, hi, j, hj => by
    have ih := acc_bit f i (by omega) j hj
    unfold acc
    by_cases hji : j = i
    · subst hji
      have e0 : (acc f j).testBit (31 - j) = false := by rw [ih]; simp
      by_cases hf : f.testBit j = true
      · rw [if_pos hf, Nat.testBit_xor, e0, Nat.testBit_two_pow_self, hf]; simp
      · rw [if_neg hf, e0]; simp at hf; simp [hf]
    · have e : (2 ^ (31 - i)).testBit (31 - j) = false := by rw [Nat.testBit_two_pow, decide_eq_false (by omega)]
      have d : decide (j < i + 1) = decide (j < i) := decide_eq_decide.2 (by omega)
      rw [d, ← ih]
      split
      · rw [Nat.testBit_xor, e, Bool.xor_false]
      · rfl
theorem acc_ne (f : Nat) (hf : f ≠ 0) (hlt : f < 4294967296) : acc f 32 ≠ 0 := by
  intro h
  apply hf
  apply Nat.eq_of_testBit_eq
  intro j
  rw [Nat.zero_testBit]
  by_cases hj : j < 32
  · have := acc_bit f 32 (Nat.le_refl _) j hj
    rw [h, Nat.zero_testBit, decide_eq_true hj, Bool.true_and] at this
    exact this.symm
  · have hp : 2 ^ 32 ≤ 2 ^ j := Nat.pow_le_pow_right (by decide) (by omega)
    exact Nat.testBit_lt_two_pow (by omega)
def turned (c l : List UInt8) (at' f i : Nat) : Prop := l.length = c.length ∧ gF 4294967295 l = gF 4294967295 c ^^^ turnNs (8 * c.length - at') (acc f i)
theorem turned_zero (c : List UInt8) (at' f : Nat) : turned c c at' f 0 := ⟨rfl, by rw [show acc f 0 = 0 from rfl, turnNs_nil, Nat.xor_zero]⟩
theorem turned_no {c l : List UInt8} {at' f i : Nat} (h : turned c l at' f i) (hb : f.testBit i = false) : turned c l at' f (i + 1) := by
  refine ⟨h.1, ?_⟩
  have e : acc f (i + 1) = acc f i := by
    show (if f.testBit i = true then acc f i ^^^ 2 ^ (31 - i) else acc f i) = _
    rw [if_neg (by rw [hb]; simp)]
  rw [h.2, e]
theorem turned_yes {c l : List UInt8} {at' f i : Nat} (h : turned c l at' f i) (hb : f.testBit i = true) (hi : i < 32) (hat : at' + 32 ≤ 8 * c.length) {b x : UInt8} (hg : l[(at' + i) / 8]? = some b) (hx : x.toNat = b.toNat ^^^ 2 ^ (7 - (at' + i) % 8)) : turned c (l.set ((at' + i) / 8) x) at' f (i + 1) := by
  refine ⟨by rw [List.length_set, h.1], ?_⟩
  have e : acc f (i + 1) = acc f i ^^^ 2 ^ (31 - i) := by
    show (if f.testBit i = true then acc f i ^^^ 2 ^ (31 - i) else acc f i) = _
    rw [if_pos hb]
  have hp : 2 ^ (31 - i) * 2 ^ i = 2147483648 := by rw [← Nat.pow_add, show 31 - i + i = 31 by omega]
  have hs : turnNs i (2 ^ (31 - i)) = 2147483648 := by rw [turnNs_shift i _ (by rw [hp]; decide), hp]
  have hl : 2 ^ (31 - i) < 4294967296 := by
    have : 2 ^ (31 - i) ≤ 2 ^ 31 := Nat.pow_le_pow_right (by decide) (by omega)
    omega
  rw [gF_bit l _ _ b x (by decide) (by rw [h.1]; omega) hg hx, h.2, h.1, e, turnNs_xor _ _ _ (acc_lt f i) hl, show 8 * c.length - at' = i + (8 * c.length - (at' + i)) by omega, turnNs_add i _ (2 ^ (31 - i)), hs, Nat.xor_assoc]
theorem burst_seen {c l : List UInt8} {at' f : Nat} (hc : isSealed c = true) (h4 : 4 ≤ c.length) (h : turned c l at' f 32) (hf : f ≠ 0) (hlt : f < 4294967296) : isSealed l = false := by
  rw [Bool.eq_false_iff]
  intro hl
  rw [sealed_gF l (by rw [h.1]; exact h4), h.2, (sealed_gF c h4).1 hc] at hl
  have : turnNs (8 * c.length - at') (acc f 32) = 0 := by
    have e : turnNs 32 4294967295 ^^^ (turnNs 32 4294967295 ^^^ turnNs (8 * c.length - at') (acc f 32)) = turnNs (8 * c.length - at') (acc f 32) := by rw [← Nat.xor_assoc, Nat.xor_self, Nat.zero_xor]
    rw [← e, hl, Nat.xor_self]
  exact acc_ne f hf hlt (turnNs_zero _ _ (acc_lt f 32) this)
end Go.Proofs.YtclhjcbnpdlgbaaGreatDoor
/- WireSpoilt: its function. -/
namespace Go.Proofs.YtclhjcbnpdlgbaaGreatDoor
open Go Go.Lift
set_option maxHeartbeats 4000000
set_option linter.unusedSimpArgs false
set_option linter.unusedVariables false
attribute [local irreducible] WK IL IP IG IW DW

theorem decode_cut (b : List UInt8) (cut : Nat) (h1 : cut < b.length) (hb : b.length ≤ 1048576) (hL : ∀ m x, lenW (b.take (m + 7) ++ x) = b.length) : ∃ e : Int, ¬ e = 0 ∧ SCallG GT Tryz.prog 13 [.tr cut (bcells (b.take cut))] (errIV e) [.tr cut (bcells (b.take cut))] := by
  have hl : (b.take cut).length = cut := by rw [List.length_take]; omega
  by_cases h : cut < 11
  · have := decode_err (b.take cut) 14 (by decide) (frame_short (b.take cut) (by omega))
    rw [hl] at this
    exact ⟨14, by decide, this⟩
  · have := decode_err (b.take cut) 30 (by decide) (frame_bad (b.take cut) (by omega) (by omega) (fun h2 => by
      have h3 := hL (cut - 7) []
      rw [show cut - 7 + 7 = cut by omega, List.append_nil] at h3
      rw [h3, hl] at h2
      omega))
    rw [hl] at this
    exact ⟨30, by decide, this⟩
theorem decode_more (b more : List UInt8) (hm : ¬ more = []) (h11 : 11 ≤ b.length) (hb : b.length + more.length ≤ 1048576) (hL : ∀ m x, lenW (b.take (m + 7) ++ x) = b.length) : SCallG GT Tryz.prog 13 [.tr (b ++ more).length (bcells (b ++ more))] (errIV 30) [.tr (b ++ more).length (bcells (b ++ more))] := by
  have hp : 0 < more.length := List.length_pos_iff.2 hm
  have hl : (b ++ more).length = b.length + more.length := List.length_append
  refine decode_err (b ++ more) 30 (by decide) (frame_bad (b ++ more) (by omega) (by omega) fun h2 => ?_)
  have h3 := hL b.length more
  rw [List.take_of_length_le (by omega)] at h3
  rw [h3, hl] at h2
  omega
theorem decode_turned (l : List UInt8) (h11 : ¬ l.length < 11) (hl : l.length ≤ 1048576) (hs : isSealed l = false) : ∃ e : Int, ¬ e = 0 ∧ SCallG GT Tryz.prog 13 [.tr l.length (bcells l)] (errIV e) [.tr l.length (bcells l)] := by
  by_cases hf : l.take 3 = [67, 80, 1] ∧ lenW l = l.length
  · have hfr := frame_sealed l h11 hl hf.1 hf.2
    rw [hs, if_neg (by decide)] at hfr
    exact ⟨31, by decide, decode_err l 31 (by decide) hfr⟩
  · exact ⟨30, by decide, decode_err l 30 (by decide) (frame_bad l h11 hl hf)⟩
theorem bits_xor8 (a b : Nat) (ha : a < 256) (hb : b < 256) : bits .xor .u8 (a : Int) (b : Int) = ((a ^^^ b : Nat) : Int) := by
  have ha' : a % 2 ^ 8 = a := Nat.mod_eq_of_lt ha
  have hb' : b % 2 ^ 8 = b := Nat.mod_eq_of_lt hb
  have e : bits .xor .u8 (a : Int) (b : Int) = IntKind.u8.wrap ((a ^^^ b : Nat) : Int) := by
    have h0 : (BitVec.ofNat 8 a ^^^ BitVec.ofNat 8 b).toNat = a ^^^ b := by rw [BitVec.toNat_xor, BitVec.toNat_ofNat, BitVec.toNat_ofNat, ha', hb']
    simp only [bits, BitVec.ofInt_natCast]
    exact congrArg (fun n : Nat => IntKind.u8.wrap (n : Int)) h0
  rw [e]
  have h : a ^^^ b < 2 ^ 8 := Nat.xor_lt_two_pow (n := 8) ha hb
  exact IntWalk.u8_in _ (by omega)
theorem bit_of (f i : Nat) (hf : f < 4294967296) (hi : i < 32) : (bits .and .u32 ((f : Int).fdiv (2 ^ min i 32)) 1 == 1) = f.testBit i := by
  have hm : min i 32 = i := by omega
  have e1 : (f : Int).fdiv (2 ^ i) = ((f / 2 ^ i : Nat) : Int) := by
    rw [Int.fdiv_eq_ediv_of_nonneg _ (Int.pow_nonneg (by decide))]; simp
  have hlt : f / 2 ^ i < 2 ^ 32 := Nat.lt_of_le_of_lt (Nat.div_le_self _ _) hf
  have e2 := bits_and32 (f / 2 ^ i) 1 hlt (by decide)
  rw [show (((1 : Nat) : Int)) = 1 from rfl] at e2
  rw [hm, e1, e2, Nat.testBit_eq_decide_div_mod_eq, Nat.and_one_is_mod]
  by_cases h : f / 2 ^ i % 2 = 1
  · rw [h]; rfl
  · rw [decide_eq_false h]
    have : f / 2 ^ i % 2 = 0 := by omega
    rw [this]; rfl
theorem pow7 (r : Nat) (hr : r < 8) : (128 : Int).fdiv (2 ^ min r 8) = ((2 ^ (7 - r) : Nat) : Int) ∧ 2 ^ (7 - r) < 256 := by
  have : r = 0 ∨ r = 1 ∨ r = 2 ∨ r = 3 ∨ r = 4 ∨ r = 5 ∨ r = 6 ∨ r = 7 := by omega
  rcases this with rfl | rfl | rfl | rfl | rfl | rfl | rfl | rfl <;> exact ⟨by decide, by decide⟩
open Classical in
theorem wireSpoilt_call (d : List Vc.Ve) (r s c u : Int) (ops : List OpV) (at' : Int) (f : Nat) (cut : Int) (more : List UInt8) (hd8 : d.length * 8 ≤ 140737488355328) (hl72 : ops.length * 72 ≤ 140737488355328) (h16 : ∀ o ∈ ops, o.s.length * 16 ≤ 140737488355328) (ht : ∀ o ∈ ops, o.t.length ≤ 9223372036854775807 ∧ o.s.length ≤ 9223372036854775807)
    (hw : wfD d) (hr : 0 ≤ r ∧ r ≤ 65535) (hwo : ∀ o ∈ ops, wfC o) (hwr : ∀ o ∈ ops, (0 ≤ o.r ∧ o.r ≤ 65535) ∧ ∀ x ∈ o.s, 0 ≤ x.1 ∧ x.1 ≤ 65535) (hf : f < 4294967296) (ha : -9223372036854775808 ≤ at' ∧ at' ≤ 9223372036854775807) (hcr : -9223372036854775808 ≤ cut ∧ cut ≤ 9223372036854775807) (hmr : more.length ≤ 9223372036854775807) :
    SCallG GT Tryz.prog 5 [.agg (enT d r s c u ops), .v (.int .i64 at'), .v (.int .u32 (f : Int)), .v (.int .i64 cut), .tr more.length (bcells more)] (.v (.bool true)) [.agg (enT d r s c u ops), .v (.int .i64 at'), .v (.int .u32 (f : Int)), .v (.int .i64 cut), .tr more.length (bcells more)] := by
  have hsma := small10_call d r s c u ops (by omega) (by omega) ht
  have href := ref10_frz d r s c u ops hd8 hl72 h16
  by_cases hsm : d.length ≤ 100 ∧ smallT ops
  rotate_left
  · rw [decide_eq_false hsm] at hsma
    refine SCallG.of_body' (G := GT) (TT := TT) (fun _ => false) [false, false, false, false, false] ttok Tryz.func5 rfl (Nat.le_of_ble_eq_true rfl) rfl fun fx hfx hgf => WK.top ?_
    simp only [impl, imp, argT, List.append_nil, List.map_nil, List.nil_append, show Tryz.f5.ntmps = 117 from rfl, Nat.zero_add, Nat.reduceAdd]
    repeat' (first | refine WK.seq ?_ | refine WK.reg ?_ | refine IL.nil ?_ | refine WK.skip ?_ | refine WK.block ?_ | refine WK.exit_here ?_ | refine WK.e1 ?_ | refine WK.e2 ?_ | (with_reducible refine IL.wr ?_ ?_; focus exact cW) | refine IL.sg ttok ?_ | refine IL.nn ?_ | refine IL.cSG hgf ttok ent7 [] true ?_ (hS := by exact anchor10) | refine IL.cS ttok ent8 [.bor] true ?_ (hS := by exact hsma) | refine IL.cS ttok ent9 [.bor] false ?_ (hS := by exact href) | refine IL.cS ttok ent10 [.bor] true ?_ (hS := by exact hf2) | refine IL.cSG hgf ttok ent13 [.bor] true ?_ (hS := by first | exact hcu | exact hmo | exact htu) (hkr := by first | rfl | (simp only [go_sem]; first | done | rfl)) | refine IL.cSG hgf ttok ent13 [.bor] false ?_ (hS := by first | exact hcu | exact hmo | exact htu) | refine IL.cS ttok ent14 [.bor] true ?_ (hS := by exact hrb) | ((first | ((first | refine IL.ag (fun h => ?_) (fun h => ?_) | refine IL.ap (fun h => ?_) (fun h => ?_)); (fail_if_success (focus (simp only [reduceCtorEq] at h)))) | refine WK.cn (fun h => ?_) (fun h => ?_)); all_goals first | (simp only [reduceCtorEq] at h; done) | (simp only [hsA, hsD, hsE, ne_eq] at h; first | done | (exfalso; omega; done) | skip) | skip))
    all_goals try ((first | refine WK.ret ⟨.inr rfl, ?_⟩ | refine ⟨.inl rfl, ?_⟩ | refine ⟨.inl trivial, ?_⟩); refine Fin.o ?_ ?_ (h1 := by first | rfl | (simp only [go_sem, show Tryz.f5.results.toList = [.tmp 10] from rfl, reduceIte] <;> rfl)); rotate_left 1; (focus (first | rfl | skip)); all_goals try with_reducible rfl)
    all_goals skip
  rw [decide_eq_true hsm] at hsma
  have hsz : ∀ o ∈ ops, o.t.length ≤ 1000 ∧ o.s.length ≤ 1024 := fun o ho => by have := hsm.2.2 o ho; unfold smallO at this; omega
  have hf2 := rFit10_call d r s c u ops (by omega) hw hsm.2.1 hsz hwo
  by_cases h0 : fit10 d r s c u ops = 0
  rotate_left
  · generalize fit10 d r s c u ops = F at *
    refine SCallG.of_body' (G := GT) (TT := TT) (fun _ => false) [false, false, false, false, false] ttok Tryz.func5 rfl (Nat.le_of_ble_eq_true rfl) rfl fun fx hfx hgf => WK.top ?_
    simp only [impl, imp, argT, List.append_nil, List.map_nil, List.nil_append, show Tryz.f5.ntmps = 117 from rfl, Nat.zero_add, Nat.reduceAdd]
    repeat' (first | refine WK.seq ?_ | refine WK.reg ?_ | refine IL.nil ?_ | refine WK.skip ?_ | refine WK.block ?_ | refine WK.exit_here ?_ | refine WK.e1 ?_ | refine WK.e2 ?_ | (with_reducible refine IL.wr ?_ ?_; focus exact cW) | refine IL.sg ttok ?_ | refine IL.nn ?_ | refine IL.cSG hgf ttok ent7 [] true ?_ (hS := by exact anchor10) | refine IL.cS ttok ent8 [.bor] true ?_ (hS := by exact hsma) | refine IL.cS ttok ent9 [.bor] false ?_ (hS := by exact href) | refine IL.cS ttok ent10 [.bor] true ?_ (hS := by exact hf2) | refine IL.cSG hgf ttok ent13 [.bor] true ?_ (hS := by first | exact hcu | exact hmo | exact htu) (hkr := by first | rfl | (simp only [go_sem]; first | done | rfl)) | refine IL.cSG hgf ttok ent13 [.bor] false ?_ (hS := by first | exact hcu | exact hmo | exact htu) | refine IL.cS ttok ent14 [.bor] true ?_ (hS := by exact hrb) | ((first | ((first | refine IL.ag (fun h => ?_) (fun h => ?_) | refine IL.ap (fun h => ?_) (fun h => ?_)); (fail_if_success (focus (simp only [reduceCtorEq] at h)))) | refine WK.cn (fun h => ?_) (fun h => ?_)); all_goals first | (simp only [reduceCtorEq] at h; done) | (simp only [hsA, hsD, hsE, ne_eq] at h; first | done | (exfalso; omega; done) | skip) | skip))
    all_goals try ((first | refine WK.ret ⟨.inr rfl, ?_⟩ | refine ⟨.inl rfl, ?_⟩ | refine ⟨.inl trivial, ?_⟩); refine Fin.o ?_ ?_ (h1 := by first | rfl | (simp only [go_sem, show Tryz.f5.results.toList = [.tmp 10] from rfl, reduceIte] <;> rfl)); rotate_left 1; (focus (first | rfl | skip)); all_goals try with_reducible rfl)
    all_goals skip
  by_cases h300 : more.length ≤ 300
  rotate_left
  · rw [h0] at hf2
    refine SCallG.of_body' (G := GT) (TT := TT) (fun _ => false) [false, false, false, false, false] ttok Tryz.func5 rfl (Nat.le_of_ble_eq_true rfl) rfl fun fx hfx hgf => WK.top ?_
    simp only [impl, imp, argT, List.append_nil, List.map_nil, List.nil_append, show Tryz.f5.ntmps = 117 from rfl, Nat.zero_add, Nat.reduceAdd]
    repeat' (first | refine WK.seq ?_ | refine WK.reg ?_ | refine IL.nil ?_ | refine WK.skip ?_ | refine WK.block ?_ | refine WK.exit_here ?_ | refine WK.e1 ?_ | refine WK.e2 ?_ | (with_reducible refine IL.wr ?_ ?_; focus exact cW) | refine IL.sg ttok ?_ | refine IL.nn ?_ | refine IL.cSG hgf ttok ent7 [] true ?_ (hS := by exact anchor10) | refine IL.cS ttok ent8 [.bor] true ?_ (hS := by exact hsma) | refine IL.cS ttok ent9 [.bor] false ?_ (hS := by exact href) | refine IL.cS ttok ent10 [.bor] true ?_ (hS := by exact hf2) | refine IL.cSG hgf ttok ent13 [.bor] true ?_ (hS := by first | exact hcu | exact hmo | exact htu) (hkr := by first | rfl | (simp only [go_sem]; first | done | rfl)) | refine IL.cSG hgf ttok ent13 [.bor] false ?_ (hS := by first | exact hcu | exact hmo | exact htu) | refine IL.cS ttok ent14 [.bor] true ?_ (hS := by exact hrb) | ((first | ((first | refine IL.ag (fun h => ?_) (fun h => ?_) | refine IL.ap (fun h => ?_) (fun h => ?_)); (fail_if_success (focus (simp only [reduceCtorEq] at h)))) | refine WK.cn (fun h => ?_) (fun h => ?_)); all_goals first | (simp only [reduceCtorEq] at h; done) | (simp only [hsA, hsD, hsE, ne_eq] at h; first | done | (exfalso; omega; done) | skip) | skip))
    all_goals try ((first | refine WK.ret ⟨.inr rfl, ?_⟩ | refine ⟨.inl rfl, ?_⟩ | refine ⟨.inl trivial, ?_⟩); refine Fin.o ?_ ?_ (h1 := by first | rfl | (simp only [go_sem, show Tryz.f5.results.toList = [.tmp 10] from rfl, reduceIte] <;> rfl)); rotate_left 1; (focus (first | rfl | skip)); all_goals try with_reducible rfl)
    all_goals skip
  obtain ⟨a, b, e, g, rfl, rfl, rfl, rfl, e1, e2, e3, e4, e5, e6, e7, e8⟩ := env_good hw hr hwo hwr hsm h0
  rw [h0] at hf2
  have hrb := refB10_call d a b e g ops (by omega) hw (by omega) (by omega) (by omega) (by omega) (by omega) (fun o ho => goodO_ok (e6 o ho))
  have hde := decode_good d a b e g ops hsm.1 e1 e2 e3 e4 e5 e6 e7 e8 hwo hsz h0 _ rfl
  obtain ⟨q1, q2, q3, q4, q5⟩ := sealed_facts d a b e g ops _ rfl e8
  rw [← (seal_sealed (encB d a b e g ops)).2.2] at hrb
  clear hwo hwr hsz e6 e7 ht h16 q5
  generalize sealB (encB d a b e g ops) = S at *
  have hmo : (more.length = 0 ∧ SCallG GT Tryz.prog 13 [.tr (S ++ more).length (bcells (S ++ more))] (.tup [.agg (enT d a b e g ops), .v (.int .i64 0)]) [.tr (S ++ more).length (bcells (S ++ more))]) ∨ (¬ more.length = 0 ∧ SCallG GT Tryz.prog 13 [.tr (S ++ more).length (bcells (S ++ more))] (errIV 30) [.tr (S ++ more).length (bcells (S ++ more))]) := by
    by_cases hm : more = []
    · subst hm
      rw [List.append_nil]
      exact .inl ⟨rfl, hde⟩
    · exact .inr ⟨fun h => hm (List.length_eq_zero_iff.1 h), decode_more S more hm (by omega) (by omega) q3⟩
  simp only [List.length_append] at hmo
  have htall : (S ++ more).take (S.length + more.length) = S ++ more := List.take_of_length_le (by simp)
  have hbb : ∀ x y : List UInt8, bcells x ++ bcells y = bcells (x ++ y) := fun x y => by simp [bcells]
  have hbt : ∀ (n : Nat) (x : List UInt8), (bcells x).take n = bcells (x.take n) := fun n x => by simp [bcells]
  have hcut : (∃ (n : Nat) (e' : Int), cut = (n : Int) ∧ n < S.length ∧ n ≤ S.length ∧ ¬ e' = 0 ∧ SCallG GT Tryz.prog 13 [.tr n (bcells (S.take n))] (errIV e') [.tr n (bcells (S.take n))]) ∨ ((cut < 0 ∨ (0 ≤ cut ∧ (S.length : Int) ≤ cut)) ∧ 0 ≤ S.length) := by
    by_cases h : 0 ≤ cut ∧ cut < S.length
    · obtain ⟨e', h1, h2⟩ := decode_cut S cut.toNat (by omega) (by omega) q3
      exact .inl ⟨cut.toNat, e', by omega, by omega, by omega, h1, h2⟩
    · exact .inr ⟨by omega, Nat.zero_le _⟩
  have hSl : S.length ≤ 300011 := by omega
  have htn : ∀ l : List UInt8, turned S l (at'.toNat) f 32 → f ≠ 0 → ∃ e : Int, ¬ e = 0 ∧ SCallG GT Tryz.prog 13 [.tr l.length (bcells l)] (errIV e) [.tr l.length (bcells l)] := fun l ht h0 =>
    decode_turned l (by rw [ht.1]; omega) (by rw [ht.1]; omega) (burst_seen q4 (by omega) ht h0 hf)
  unfold errIV at hmo hcut htn
  clear hde q2 q3 q4 e8 h0
  by_cases hg : f ≠ 0 ∧ 0 ≤ at' ∧ at' ≤ 8 * (S.length : Nat) - 32
  · obtain ⟨g2, g3, g4⟩ := hg
    obtain ⟨a', rfl⟩ := Int.eq_ofNat_of_zero_le g3
    rw [Int.toNat_natCast] at htn
    rcases hcut with ⟨n, e', rfl, hn, hnS, he', hcu⟩ | ⟨hcn | hcn, hnS⟩
    all_goals rcases hmo with ⟨hm0, hmo⟩ | ⟨hm0, hmo⟩
    all_goals
      refine SCallG.of_body' (G := GT) (TT := TT) (fun _ => false) [false, false, false, false, false] ttok Tryz.func5 rfl (Nat.le_of_ble_eq_true rfl) rfl fun fx hfx hgf => WK.top ?_
      simp only [impl, imp, argT, List.append_nil, List.map_nil, List.nil_append, show Tryz.f5.ntmps = 117 from rfl, Nat.zero_add, Nat.reduceAdd]
      have FX := And.intro hbb (And.intro hbt (And.intro htall hnS))
      repeat' (first | refine WK.seq ?_ | refine WK.reg ?_ | refine IL.nil ?_ | refine WK.skip ?_ | refine WK.block ?_ | refine WK.exit_here ?_ | refine WK.e1 ?_ | refine WK.e2 ?_ | (with_reducible refine IL.wr ?_ ?_; focus exact cW) | refine IL.sgF ttok ?_ | refine IL.nn ?_ | refine IL.cSGF hgf ttok ent7 [] true ?_ (hS := by exact anchor10) | refine IL.cSF ttok ent8 [.bor] true ?_ (hS := by exact hsma) | refine IL.cSF ttok ent9 [.bor] false ?_ (hS := by exact href) | refine IL.cSF ttok ent10 [.bor] true ?_ (hS := by exact hf2) | refine IL.cSGF hgf ttok ent13 [.bor] true ?_ (hS := by first | exact hcu | exact hmo | exact htu) (hkr := by first | rfl | (simp only [go_sem]; first | done | rfl)) | refine IL.cSGF hgf ttok ent13 [.bor] false ?_ (hS := by first | exact hcu | exact hmo | exact htu) | refine IL.cSF ttok ent14 [.bor] true ?_ (hS := by exact hrb) | ((first | ((first | refine IL.ag (fun h => ?_) (fun h => ?_) | refine IL.ap (fun h => ?_) (fun h => ?_)); (fail_if_success (focus (simp only [reduceCtorEq] at h)))) | refine WK.cn (fun h => ?_) (fun h => ?_)); all_goals first | (simp only [reduceCtorEq] at h; done) | (simp only [hsA, hsD, hsE, ne_eq] at h; first | done | (exfalso; omega; done) | skip) | skip))
      refine WK.whileS (α := Nat × List UInt8) (fun x => 32 - x.1) (fun x => x.1 ≤ 32 ∧ turned S x.2 a' f x.1) (fun x => ⟨117, [(1, .v (.int .i64 (a' : Int))), (2, .v (.int .u32 (f : Int))), (11, .sl 0 0 0 S.length), (85, .v (.int .i64 (x.1 : Int)))], [some ⟨true, 5, S.length, true, bcells x.2, 0, false⟩]⟩) (0, S) ⟨⟨Nat.zero_le _, turned_zero S a' f⟩, ?_⟩ ?_
      · (refine Weak.renS [1] hfx rfl ?_ ?_ rfl <;> (simp only [go_sem, reduceIte, exists_eq_left', exists_eq_left, Blk.mk.injEq] <;> (try and_intros) <;> first | rfl | omega))
      · rintro ⟨i, l⟩ ⟨hi, ht⟩
        simp only at hi ht ⊢
        have hlen : l.length = S.length := ht.1
        rcases Nat.eq_or_lt_of_le hi with rfl | hi
        · obtain ⟨ee, hee, htu⟩ := htn l ht g2
          rw [hlen] at htu
          have htk : List.take S.length (bcells l) = bcells l := List.take_of_length_le (by simp [bcells]; omega)
          have hee2 : (ee != 0) = true := by simpa using hee
          have FX := htk
          repeat' (first | refine WK.seq ?_ | refine WK.reg ?_ | refine IL.nil ?_ | refine WK.skip ?_ | refine WK.block ?_ | refine WK.exit_here ?_ | refine WK.e1 ?_ | refine WK.e2 ?_ | (with_reducible refine IL.wr ?_ ?_; focus exact cW) | refine IL.sgF ttok ?_ | refine IL.nn ?_ | refine IL.cSGF hgf ttok ent7 [] true ?_ (hS := by exact anchor10) | refine IL.cSF ttok ent8 [.bor] true ?_ (hS := by exact hsma) | refine IL.cSF ttok ent9 [.bor] false ?_ (hS := by exact href) | refine IL.cSF ttok ent10 [.bor] true ?_ (hS := by exact hf2) | refine IL.cSGF hgf ttok ent13 [.bor] true ?_ (hS := by first | exact hcu | exact hmo | exact htu) (hkr := by first | rfl | (simp only [go_sem]; first | done | rfl)) | refine IL.cSGF hgf ttok ent13 [.bor] false ?_ (hS := by first | exact hcu | exact hmo | exact htu) | refine IL.cSF ttok ent14 [.bor] true ?_ (hS := by exact hrb) | ((first | ((first | refine IL.ag (fun h => ?_) (fun h => ?_) | refine IL.ap (fun h => ?_) (fun h => ?_)); (fail_if_success (focus (simp only [reduceCtorEq] at h)))) | refine WK.cn (fun h => ?_) (fun h => ?_)); all_goals first | (simp only [reduceCtorEq] at h; done) | (simp only [hsA, hsD, hsE, ne_eq] at h; first | done | (exfalso; omega; done) | skip) | skip))
          all_goals try ((first | refine WK.ret ⟨.inr rfl, ?_⟩ | refine ⟨.inl rfl, ?_⟩ | refine ⟨.inl trivial, ?_⟩); refine Fin.o ?_ ?_ (h1 := by first | rfl | (simp only [go_sem, show Tryz.f5.results.toList = [.tmp 10] from rfl, reduceIte] <;> rfl)); rotate_left 1; (focus (first | rfl | skip)); all_goals try with_reducible rfl)
          all_goals rw [hee2]
        · have hbit := bit_of f i hf hi
          have hk : (a' : Int) + (i : Int) = ((a' + i : Nat) : Int) := by omega
          have hkl : (a' + i) / 8 < l.length := by omega
          obtain ⟨x, hx⟩ : ∃ x, l[(a' + i) / 8]? = some x := ⟨l[(a' + i) / 8], List.getElem?_eq_getElem hkl⟩
          obtain ⟨p1, p2⟩ := pow7 ((a' + i) % 8) (by omega)
          have hg := bcells_get hx
          have hq : Int.tdiv ((a' + i : Nat) : Int) 8 = (((a' + i) / 8 : Nat) : Int) := by rw [Int.tdiv_eq_ediv_of_nonneg (by omega)]; simp
          have hm : Int.tmod ((a' + i : Nat) : Int) 8 = (((a' + i) % 8 : Nat) : Int) := by rw [Int.tmod_eq_emod_of_nonneg (by omega)]; simp
          have hxor := bits_xor8 x.toNat (2 ^ (7 - (a' + i) % 8)) x.toNat_lt p2
          have hset : (bcells l).set ((a' + i) / 8) (.v (.int .u8 ((x.toNat ^^^ 2 ^ (7 - (a' + i) % 8) : Nat) : Int))) = bcells (l.set ((a' + i) / 8) (UInt8.ofNat (x.toNat ^^^ 2 ^ (7 - (a' + i) % 8)))) := by
            have hlt : x.toNat ^^^ 2 ^ (7 - (a' + i) % 8) < 256 := Nat.xor_lt_two_pow (n := 8) x.toNat_lt p2
            simp only [bcells, List.map_set, UInt8.toNat_ofNat']
            rw [Nat.mod_eq_of_lt hlt]
          generalize hkk : a' + i = k at *
          by_cases hb : f.testBit i = true
          · rw [hb] at hbit
            have htt := turned_yes (x := UInt8.ofNat (x.toNat ^^^ 2 ^ (7 - k % 8))) ht hb hi (by omega) (by rw [hkk]; exact hx) (by rw [hkk, UInt8.toNat_ofNat', Nat.mod_eq_of_lt (Nat.xor_lt_two_pow (n := 8) x.toNat_lt p2)])
            rw [hkk] at htt
            have FX := And.intro hbit (And.intro hk (And.intro hq (And.intro hm (And.intro p1 (And.intro hg hxor)))))
            repeat' (first | refine WK.seq ?_ | refine WK.reg ?_ | refine IL.nil ?_ | refine WK.skip ?_ | refine WK.block ?_ | refine WK.exit_here ?_ | refine WK.e1 ?_ | refine WK.e2 ?_ | (with_reducible refine IL.wr ?_ ?_; focus exact cW) | refine IL.sgF ttok ?_ | refine IL.nn ?_ | refine IL.cSGF hgf ttok ent7 [] true ?_ (hS := by exact anchor10) | refine IL.cSF ttok ent8 [.bor] true ?_ (hS := by exact hsma) | refine IL.cSF ttok ent9 [.bor] false ?_ (hS := by exact href) | refine IL.cSF ttok ent10 [.bor] true ?_ (hS := by exact hf2) | refine IL.cSGF hgf ttok ent13 [.bor] true ?_ (hS := by first | exact hcu | exact hmo | exact htu) (hkr := by first | rfl | (simp only [go_sem]; first | done | rfl)) | refine IL.cSGF hgf ttok ent13 [.bor] false ?_ (hS := by first | exact hcu | exact hmo | exact htu) | refine IL.cSF ttok ent14 [.bor] true ?_ (hS := by exact hrb) | ((first | ((first | refine IL.ag (fun h => ?_) (fun h => ?_) | refine IL.ap (fun h => ?_) (fun h => ?_)); (fail_if_success (focus (simp only [reduceCtorEq] at h)))) | refine WK.cn (fun h => ?_) (fun h => ?_)); all_goals first | (simp only [reduceCtorEq] at h; done) | (simp only [hsA, hsD, hsE, ne_eq] at h; first | done | (exfalso; omega; done) | skip) | skip))
            refine ⟨(i + 1, _), by simp only; omega, ⟨by simp only; omega, htt⟩, ?_⟩
            (refine Weak.renS [0] hfx rfl ?_ ?_ rfl <;> (simp only [go_sem, reduceIte, exists_eq_left', exists_eq_left, Blk.mk.injEq, hset] <;> (try and_intros) <;> first | rfl | omega))
          · rw [Bool.eq_false_iff.2 hb] at hbit
            have htt := turned_no ht (Bool.eq_false_iff.2 hb)
            have FX := hbit
            repeat' (first | refine WK.seq ?_ | refine WK.reg ?_ | refine IL.nil ?_ | refine WK.skip ?_ | refine WK.block ?_ | refine WK.exit_here ?_ | refine WK.e1 ?_ | refine WK.e2 ?_ | (with_reducible refine IL.wr ?_ ?_; focus exact cW) | refine IL.sgF ttok ?_ | refine IL.nn ?_ | refine IL.cSGF hgf ttok ent7 [] true ?_ (hS := by exact anchor10) | refine IL.cSF ttok ent8 [.bor] true ?_ (hS := by exact hsma) | refine IL.cSF ttok ent9 [.bor] false ?_ (hS := by exact href) | refine IL.cSF ttok ent10 [.bor] true ?_ (hS := by exact hf2) | refine IL.cSGF hgf ttok ent13 [.bor] true ?_ (hS := by first | exact hcu | exact hmo | exact htu) (hkr := by first | rfl | (simp only [go_sem]; first | done | rfl)) | refine IL.cSGF hgf ttok ent13 [.bor] false ?_ (hS := by first | exact hcu | exact hmo | exact htu) | refine IL.cSF ttok ent14 [.bor] true ?_ (hS := by exact hrb) | ((first | ((first | refine IL.ag (fun h => ?_) (fun h => ?_) | refine IL.ap (fun h => ?_) (fun h => ?_)); (fail_if_success (focus (simp only [reduceCtorEq] at h)))) | refine WK.cn (fun h => ?_) (fun h => ?_)); all_goals first | (simp only [reduceCtorEq] at h; done) | (simp only [hsA, hsD, hsE, ne_eq] at h; first | done | (exfalso; omega; done) | skip) | skip))
            refine ⟨(i + 1, l), by simp only; omega, ⟨by simp only; omega, htt⟩, ?_⟩
            (refine Weak.renS [0] hfx rfl ?_ ?_ rfl <;> (simp only [go_sem, reduceIte, exists_eq_left', exists_eq_left, Blk.mk.injEq] <;> (try and_intros) <;> first | rfl | omega))
  · rcases hcut with ⟨n, e', rfl, hn, hnS, he', hcu⟩ | ⟨hcn | hcn, hnS⟩
    all_goals rcases hmo with ⟨hm0, hmo⟩ | ⟨hm0, hmo⟩
    all_goals
      refine SCallG.of_body' (G := GT) (TT := TT) (fun _ => false) [false, false, false, false, false] ttok Tryz.func5 rfl (Nat.le_of_ble_eq_true rfl) rfl fun fx hfx hgf => WK.top ?_
      simp only [impl, imp, argT, List.append_nil, List.map_nil, List.nil_append, show Tryz.f5.ntmps = 117 from rfl, Nat.zero_add, Nat.reduceAdd]
      have FX := And.intro hbb (And.intro hbt (And.intro htall hnS))
      repeat' (first | refine WK.seq ?_ | refine WK.reg ?_ | refine IL.nil ?_ | refine WK.skip ?_ | refine WK.block ?_ | refine WK.exit_here ?_ | refine WK.e1 ?_ | refine WK.e2 ?_ | (with_reducible refine IL.wr ?_ ?_; focus exact cW) | refine IL.sgF ttok ?_ | refine IL.nn ?_ | refine IL.cSGF hgf ttok ent7 [] true ?_ (hS := by exact anchor10) | refine IL.cSF ttok ent8 [.bor] true ?_ (hS := by exact hsma) | refine IL.cSF ttok ent9 [.bor] false ?_ (hS := by exact href) | refine IL.cSF ttok ent10 [.bor] true ?_ (hS := by exact hf2) | refine IL.cSGF hgf ttok ent13 [.bor] true ?_ (hS := by first | exact hcu | exact hmo | exact htu) (hkr := by first | rfl | (simp only [go_sem]; first | done | rfl)) | refine IL.cSGF hgf ttok ent13 [.bor] false ?_ (hS := by first | exact hcu | exact hmo | exact htu) | refine IL.cSF ttok ent14 [.bor] true ?_ (hS := by exact hrb) | ((first | ((first | refine IL.ag (fun h => ?_) (fun h => ?_) | refine IL.ap (fun h => ?_) (fun h => ?_)); (fail_if_success (focus (simp only [reduceCtorEq] at h)))) | refine WK.cn (fun h => ?_) (fun h => ?_)); all_goals first | (simp only [reduceCtorEq] at h; done) | (simp only [hsA, hsD, hsE, ne_eq] at h; first | done | (exfalso; omega; done) | skip) | skip))
      all_goals try ((first | refine WK.ret ⟨.inr rfl, ?_⟩ | refine ⟨.inl rfl, ?_⟩ | refine ⟨.inl trivial, ?_⟩); refine Fin.o ?_ ?_ (h1 := by first | rfl | (simp only [go_sem, show Tryz.f5.results.toList = [.tmp 10] from rfl, reduceIte] <;> rfl)); rotate_left 1; (focus (first | rfl | skip)); all_goals try with_reducible rfl)
      all_goals skip
end Go.Proofs.YtclhjcbnpdlgbaaGreatDoor
