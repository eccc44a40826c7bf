/- Changes of a frame's memory: growth, a new block, a block that turns, a block that is only read from now on. -/
import Derived.Test.YthekbbgpmiogdaaLZB
namespace Go.Lift
open Go Go.RowKit

def Cx.add (cx : Cx) (k ver : Nat) (p : Plc) : Cx := { cx with pl := fun k' ver' => if k' = k ∧ ver' = ver then some p else cx.pl k' ver' }
theorem Cx.add_get (cx : Cx) (k ver : Nat) (p : Plc) : (cx.add k ver p).pl k ver = some p := by simp [Cx.add]
theorem Cx.add_le {cx : Cx} {k ver : Nat} {p : Plc} (h : cx.pl k ver = none ∨ cx.pl k ver = some p) : cx.le (cx.add k ver p) := by
  refine ⟨fun k' ver' p' hp => ?_, fun _ h => h⟩
  simp only [Cx.add]
  split
  · rename_i e
    obtain ⟨rfl, rfl⟩ := e
    rcases h with h | h <;> rw [h] at hp <;> simp_all
  · exact hp

/-- THE WORLD GROWS: new blocks, draws; of the new blocks some may be read from now on. -/
theorem Mem.grow {P : Program} {fx : Fx} {cx : Cx} {σ : St} {w w' : World} (h : Mem P fx cx σ w) (hf : Fr w w' []) (R' : Nat → Prop) (hR : ∀ b, cx.R b → R' b)
    (hR' : ∀ b, R' b → cx.R b ∨ w.heap.size ≤ b ∧ b < w'.heap.size) : Mem P fx { cx with R := R' } σ w' := by
  refine h.step (fun _ => False) hf (fun bb o ⟨r, hr, _⟩ => by simp at hr) ⟨fun _ _ _ h => h, hR⟩ ?_ (fun k b _ hb => hb) (fun _ _ hf => hf.elim) (fun _ _ _ _ _ _ hf => hf.elim) h.plok
  intro bb hb
  rcases hR' bb hb with h' | ⟨h1, h2⟩
  · exact ⟨Nat.lt_of_lt_of_le (h.rlt bb h') hf.hsize, .inl h'⟩
  · exact ⟨h2, .inr (.inr h1)⟩
theorem Mem.grow' {P : Program} {fx : Fx} {cx : Cx} {σ : St} {w w' : World} (h : Mem P fx cx σ w) (hf : Fr w w' []) : Mem P fx cx σ w' :=
  h.grow hf cx.R (fun _ h => h) fun _ h => .inl h
theorem Mem.heapEq {P : Program} {fx : Fx} {cx : Cx} {σ : St} {w w' : World} (h : Mem P fx cx σ w) (hf : Fr w w' []) : HeapEq cx.R w w' :=
  fun b hb => hf.hblk b (h.rlt b hb) fun o ⟨r, hr, _⟩ => by simp at hr

theorem Mem.none_at {P : Program} {fx : Fx} {cx : Cx} {σ : St} {w : World} (h : Mem P fx cx σ w) (ver : Nat) : cx.pl σ.L.length ver = none := by
  cases hp : cx.pl σ.L.length ver with
  | none => rfl
  | some p => have := (h.plok _ _ _ hp).1; omega

/-- A NEW BLOCK -/
theorem Mem.push {P : Program} {fx : Fx} {cx : Cx} {σ : St} {w w' : World} (h : Mem P fx cx σ w) (hf : Fr w w' []) (b : Blk) (p : Plc)
    (hok : BlkOk P cx w' p b) (hz : b.frz = false) (hr : ∀ x ∈ b.rng p, ∀ bb o, x.has bb o → w.heap.size ≤ bb) :
    Mem P fx (cx.add σ.L.length b.ver p) { σ with L := σ.L ++ [some b] } w' := by
  have hle : cx.le (cx.add σ.L.length b.ver p) := Cx.add_le (.inl (h.none_at _))
  refine h.step (fun k => k = σ.L.length) hf (fun bb o ⟨r, hr, _⟩ => by simp at hr) hle ?_ ?_ ?_ ?_ ?_
  · intro bb hb
    exact ⟨Nat.lt_of_lt_of_le (h.rlt bb hb) hf.hsize, .inl hb⟩
  · intro k b' hk hb
    simp only [List.getElem?_append] at hb
    split at hb
    · exact hb
    · rename_i hlt
      have : k - σ.L.length ≠ 0 := by omega
      obtain ⟨j, hj⟩ := Nat.exists_eq_succ_of_ne_zero this
      simp [hj] at hb
  · rintro k b' rfl hb
    simp at hb
    subst hb
    refine ⟨p, Cx.add_get _ _ _ _, hok.mono hle (fun b hb => rfl) (fun x hx => ?_), fun x hx bb o hh => ?_⟩
    · exact (Fr.refl w' []).keeps (fun b o _ ⟨r, hr, _⟩ => by simp at hr) (hok.lt x hx)
    · have hge := hr x hx bb o hh
      exact ⟨.inr hge, fun _ hR => by have := h.rlt bb hR; omega, fun hf => by rw [hz] at hf; cases hf⟩
  · intro k k' b b' p p' hk hk' _ _ hne
    exact absurd (hk.trans hk'.symm) hne
  · intro k ver q hq
    simp only [Cx.add] at hq
    split at hq
    · rename_i e
      obtain ⟨rfl, rfl⟩ := e
      refine ⟨by simp, fun b' hb' => ?_⟩
      simp at hb'; subst hb'; exact Nat.le_refl _
    · have := h.plok k ver q hq
      refine ⟨by simp; omega, fun b' hb' => this.2 b' ?_⟩
      rwa [List.getElem?_append_left this.1] at hb'

/-- A BLOCK TURNS (in place, or to another place behind an append); R' may take in new blocks, and the block itself if it is only read from now on. -/
theorem Mem.turn {P : Program} {fx : Fx} {cx : Cx} {σ : St} {w w' : World} (h : Mem P fx cx σ w) {k : Nat} {b : Blk} {p : Plc} (hk : At cx σ k b p) (hz : b.frz = false)
    (hf : Fr w w' (b.rng p)) (b' : Blk) (p' : Plc) (hv : (b'.ver = b.ver ∧ p' = p) ∨ b'.ver = b.ver + 1) (R' : Nat → Prop) (hR : ∀ b, cx.R b → R' b)
    (hR' : ∀ bb, R' bb → cx.R bb ∨ (OwnR.blk bb ∈ b.rng p ∨ w.heap.size ≤ bb) ∧ bb < w'.heap.size)
    (hok : BlkOk P { cx.add k b'.ver p' with R := R' } w' p' b')
    (hr : ∀ x ∈ b'.rng p', ∀ bb o, x.has bb o → ((∃ y ∈ b.rng p, y.has bb o) ∨ w.heap.size ≤ bb) ∧ (b'.frz = false → ¬ R' bb) ∧ (b'.frz = true → R' bb)) :
    Mem P fx { cx.add k b'.ver p' with R := R' } { σ with L := σ.L.set k (some b') } w' := by
  have hlt : k < σ.L.length := (List.getElem?_eq_some_iff.1 hk.1).1
  have hle : cx.le { cx.add k b'.ver p' with R := R' } := by
    refine ⟨(Cx.add_le ?_).pl, hR⟩
    rcases hv with ⟨e1, e2⟩ | e
    · exact .inr (by rw [e1, e2]; exact hk.2)
    · refine .inl ?_
      cases hp : cx.pl k b'.ver with
      | none => rfl
      | some q => have := (h.plok _ _ _ hp).2 b hk.1; omega
  refine h.step (fun j => j = k) hf ?_ hle ?_ ?_ ?_ ?_ ?_
  · rintro bb o ⟨r, hr', hh⟩
    exact ⟨k, b, p, r, rfl, hk, hz, hr', hh⟩
  · intro bb hb
    rcases hR' bb hb with h' | ⟨h', hl⟩
    · exact ⟨Nat.lt_of_lt_of_le (h.rlt bb h') hf.hsize, .inl h'⟩
    · exact ⟨hl, .inr (h'.imp (fun e => ⟨k, b, p, rfl, hk, e⟩) id)⟩
  · intro j c hj hc
    simp only [List.getElem?_set] at hc
    rwa [if_neg (fun e => hj e.symm)] at hc
  · rintro j c rfl hc
    simp [hlt] at hc
    subst hc
    refine ⟨p', by simp [Cx.add], hok, fun x hx bb o hh => ?_⟩
    obtain ⟨g1, g2⟩ := hr x hx bb o hh
    exact ⟨g1.imp (fun ⟨y, hy, hyh⟩ => ⟨j, b, p, y, rfl, hk, hy, hyh⟩) id, g2⟩
  · intro j j' c c' q q' hj hj' _ _ hne
    exact absurd (hj.trans hj'.symm) hne
  · intro j ver q hq
    simp only [Cx.add] at hq
    split at hq
    · rename_i e
      obtain ⟨rfl, rfl⟩ := e
      refine ⟨by simpa using hlt, fun c hc => ?_⟩
      simp [hlt] at hc; subst hc; exact Nat.le_refl _
    · have := h.plok j ver q hq
      refine ⟨by simpa using this.1, fun c hc => ?_⟩
      simp only [List.getElem?_set] at hc
      split at hc
      · rename_i e
        subst e
        simp at hc
        obtain ⟨_, rfl⟩ := hc
        have h1 := this.2 b hk.1
        rcases hv with ⟨e1, _⟩ | e1 <;> omega
      · exact this.2 c hc

/-- a block goes -/
theorem Mem.sub {P : Program} {fx : Fx} {cx : Cx} {σ σ' : St} {w : World} (h : Mem P fx cx σ w) (hl : σ'.L.length = σ.L.length) (hs : ∀ (k : Nat) (b : Blk), σ'.L[k]? = some (some b) → σ.L[k]? = some (some b)) : Mem P fx cx σ' w := by
  have ha : ∀ k b p, At cx σ' k b p → At cx σ k b p := fun k b p h' => ⟨hs k b h'.1, h'.2⟩
  refine ⟨fun k b hb => h.blk k b (hs k b hb), fun k ver p hp => ?_, fun k k' b b' p p' h1 h2 => h.dis k k' b b' p p' (ha _ _ _ h1) (ha _ _ _ h2), fun k b p h1 => h.nor k b p (ha _ _ _ h1),
    fun k b p h1 => h.wit k b p (ha _ _ _ h1), h.rlt, h.rin, h.r0, h.fr, h.par⟩
  have := h.plok k ver p hp
  exact ⟨by rw [hl]; exact this.1, fun b hb => this.2 b (hs k b hb)⟩
theorem Mem.sameL {P : Program} {fx : Fx} {cx : Cx} {σ σ' : St} {w : World} (h : Mem P fx cx σ w) (hl : σ'.L = σ.L) : Mem P fx cx σ' w :=
  h.sub (by rw [hl]) (fun k b hb => by rw [hl] at hb; exact hb)
end Go.Lift
