/- All operations; lists of operations; code. -/
import Derived.Test.YthekbbgpmiogdaaLZO
namespace Go.Lift
open Go Go.RowKit

section
variable {P : Program} {TT : TTab} {fx : Fx} {cx : Cx} {σ : St} {a : Act} {w : World} {o : Oper} {K : St → Prop} {next : Act → World → Prop} {Q : Exit → Act → World → Prop}

theorem stepOp_sound (htt : TTok P TT) (hs : Sim P fx cx σ a w) (hK : stepOp TT o σ K) (hn : Nx P fx cx K next) : o.wp P a w next Q := by
  unfold stepOp at hK
  split at hK
  · exact step_move (.inl ‹_›) hs hK hn
  · rename_i ho
    obtain ⟨i, t1, hK⟩ := ob_elim hK
    split at hK
    · obtain ⟨ie, t2, hK⟩ := ob_elim hK
      exact step_assign_nil htt ho hs t2 hK hn
    · exact hK.elim
  · exact step_move (.inr ‹_›) hs hK hn
  · obtain ⟨c, t1, hK⟩ := ob_elim hK
    split at hK
    · obtain ⟨v, t2, hK⟩ := ob_elim hK
      exact step_pick ‹_› hs t1 t2 hK hn
    · exact hK.elim
  · obtain ⟨i, t1, hK⟩ := ob_elim hK
    obtain ⟨⟨cs, rs⟩, t2, hK⟩ := ob_elim hK
    exact step_alloc htt ‹_› hs t1 t2 hK hn
  · obtain ⟨i, t1, hK⟩ := ob_elim hK
    obtain ⟨v, t2, h1, hK⟩ := ob_elim hK
    obtain ⟨⟨cs, rs⟩, t3, hK⟩ := ob_elim hK
    exact step_box htt ‹_› hs t2 h1 t3 hK hn
  · obtain ⟨i, t1, hK⟩ := ob_elim hK
    obtain ⟨v, t2, hK⟩ := ob_elim hK
    split at hK
    · obtain ⟨b, t3, hK⟩ := ob_elim hK
      obtain ⟨v, t4, hK⟩ := ob_elim hK
      exact step_load htt ‹_› hs t1 t2 t3 t4 hK hn
    · obtain ⟨v, t4, hK⟩ := ob_elim hK
      exact step_load_ro htt ‹_› hs t1 t2 t4 hK hn
    · exact hK.elim
  · obtain ⟨i, t1, hK⟩ := ob_elim hK
    obtain ⟨p, t2, hK⟩ := ob_elim hK
    obtain ⟨v, t3, hK⟩ := ob_elim hK
    split at hK
    · obtain ⟨b, t4, ⟨c1, c2, c3⟩, c4, c5, c6, hK⟩ := ob_elim hK
      exact step_store htt ‹_› hs t1 t2 t3 t4 c1 c2 c3 c4 c5 c6 hK hn
    · exact hK.elim
  · obtain ⟨v, t1, hK⟩ := ob_elim hK
    split at hK
    · exact step_nilCheck ‹_› hs t1 (.inl ⟨_, _, _, rfl⟩) hK hn
    · exact step_nilCheck ‹_› hs t1 (.inr (.inl ⟨_, _, rfl⟩)) hK hn
    · exact step_nilCheck ‹_› hs t1 (.inr (.inr ⟨_, _, rfl⟩)) hK hn
    · exact hK.elim
  · obtain ⟨u, t1, hK⟩ := ob_elim hK
    obtain ⟨v, t2, hK⟩ := ob_elim hK
    split at hK
    · obtain ⟨i, t3, hd, hK⟩ := ob_elim hK
      obtain ⟨z, t4, hK⟩ := ob_elim hK
      exact step_boolEq htt ‹_› hs t1 t2 t3 hd t4 hK hn
    · obtain ⟨z, t4, hK⟩ := ob_elim hK
      exact step_binOp ‹_› hs t1 t2 t4 hK hn
    · obtain ⟨i, t3, hK⟩ := ob_elim hK
      obtain ⟨ks, t4, hK⟩ := ob_elim hK
      obtain ⟨r, t5, hK⟩ := ob_elim hK
      obtain ⟨z, t6, hK⟩ := ob_elim hK
      exact step_aggEq htt ‹_› hs t1 t2 t3 t4 t5 t6 hK hn
    · exact hK.elim
  · obtain ⟨u, t1, hK⟩ := ob_elim hK
    split at hK
    · obtain ⟨z, t2, hK⟩ := ob_elim hK
      exact step_unOp ‹_› hs t1 t2 hK hn
    · exact hK.elim
  · obtain ⟨i, t1, hK⟩ := ob_elim hK
    obtain ⟨⟨off, t⟩, t2, hK⟩ := ob_elim hK
    obtain ⟨it, t3, hK⟩ := ob_elim hK
    obtain ⟨v, t4, hK⟩ := ob_elim hK
    split at hK
    · exact step_fieldAddr htt ‹_› hs t1 t2 t3 t4 hK hn
    · exact step_fieldAddr_ro htt ‹_› hs t1 t2 t3 t4 hK hn
    · exact hK.elim
  · obtain ⟨i, t1, hK⟩ := ob_elim hK
    obtain ⟨⟨off, t⟩, t2, hK⟩ := ob_elim hK
    obtain ⟨it, t3, hK⟩ := ob_elim hK
    obtain ⟨v, t4, hK⟩ := ob_elim hK
    split at hK
    · obtain ⟨v, t5, hK⟩ := ob_elim hK
      exact step_field htt ‹_› hs t1 t2 t3 t4 t5 hK hn
    · exact hK.elim
  · obtain ⟨i, t1, hK⟩ := ob_elim hK
    obtain ⟨v, t2, hK⟩ := ob_elim hK
    obtain ⟨q, t3, hK⟩ := ob_elim hK
    split at hK
    · obtain ⟨ie, t4, ⟨c1, c2, c3⟩, hK⟩ := ob_elim hK
      exact step_indexAddr_ro htt ‹_› hs t1 ‹_› t4 t2 t3 c1 c2 c3 hK hn
    · obtain ⟨ie, t4, hK⟩ := ob_elim hK
      obtain ⟨b, t5, ⟨c1, c2, c3, c4⟩, hK⟩ := ob_elim hK
      exact step_indexAddr htt ‹_› hs t1 ‹_› t4 t2 t3 t5 c1 c2 c3 c4 hK hn
    · obtain ⟨ie, t4, ⟨c1, c2⟩, hK⟩ := ob_elim hK
      exact step_indexAddr_arr htt ‹_› hs t1 ‹_› t4 t2 t3 c1 c2 hK hn
    · exact hK.elim
  · obtain ⟨i, t1, hK⟩ := ob_elim hK
    obtain ⟨v, t2, hK⟩ := ob_elim hK
    obtain ⟨q, t3, hK⟩ := ob_elim hK
    split at hK
    · obtain ⟨⟨c1, c2⟩, hK⟩ := hK
      exact step_index_str htt ‹_› hs t1 ‹_› t2 t3 c1 c2 hK hn
    · obtain ⟨ie, t4, ⟨c1, c2⟩, hK⟩ := ob_elim hK
      obtain ⟨v, t5, hK⟩ := ob_elim hK
      exact step_index_arr htt ‹_› hs t1 ‹_› t4 t2 t3 c1 c2 t5 hK hn
    · exact hK.elim
  · obtain ⟨v, t1, hK⟩ := ob_elim hK
    split at hK
    · obtain ⟨v, t2, hK⟩ := ob_elim hK
      exact step_extract ‹_› hs t1 t2 hK hn
    · exact hK.elim
  · obtain ⟨i, t1, hK⟩ := ob_elim hK
    obtain ⟨v, t2, hK⟩ := ob_elim hK
    split at hK
    · obtain ⟨l, t3, hK⟩ := ob_elim hK
      obtain ⟨h, t4, ⟨c1, c2⟩, hK⟩ := ob_elim hK
      exact step_slice_str htt ‹_› hs t1 ‹_› t2 t3 t4 c1 c2 hK hn
    · obtain ⟨ie, t5, hK⟩ := ob_elim hK
      obtain ⟨l, t3, hK⟩ := ob_elim hK
      obtain ⟨h, t4, ⟨c1, c2⟩, hK⟩ := ob_elim hK
      exact step_slice_ro htt ‹_› hs t1 ‹_› t5 t2 t3 t4 c1 c2 hK hn
    · obtain ⟨ie, t5, hK⟩ := ob_elim hK
      obtain ⟨b, t6, hK⟩ := ob_elim hK
      obtain ⟨l, t3, hK⟩ := ob_elim hK
      obtain ⟨h, t4, ⟨c1, c2, c3, c4⟩, hK⟩ := ob_elim hK
      exact step_slice_row htt ‹_› hs t1 ‹_› t5 t2 t6 t3 t4 c1 c2 c3 c4 hK hn
    · obtain ⟨ie, t5, hK⟩ := ob_elim hK
      obtain ⟨l, t3, hK⟩ := ob_elim hK
      obtain ⟨h, t4, ⟨c1, c2⟩, hK⟩ := ob_elim hK
      exact step_slice_emp htt ‹_› hs t1 ‹_› ⟨ie, t5⟩ t2 t3 t4 c1 c2 hK hn
    · exact hK.elim
  · obtain ⟨i, t1, hK⟩ := ob_elim hK
    split at hK
    · obtain ⟨ie, t2, hK⟩ := ob_elim hK
      obtain ⟨cs, t3, ⟨c1, c2, c3⟩, c4, c5, hK⟩ := ob_elim hK
      exact step_buildSlice htt ‹_› hs t1 ‹_› t2 t3 c1 c2 c3 c4 c5 hK hn
    · exact hK.elim
  · obtain ⟨i, t1, hK⟩ := ob_elim hK
    split at hK
    · obtain ⟨vs, t2, hK⟩ := ob_elim hK
      obtain ⟨cs, t3, c1, hK⟩ := ob_elim hK
      refine step_build htt ‹_› hs t1 ‹_› (fun f hf => ?_) t2 t3 hK hn
      have := List.all_eq_true.1 c1 f hf
      exact Option.isSome_iff_exists.1 this
    · exact hK.elim
  · obtain ⟨is, t1, hK⟩ := ob_elim hK
    obtain ⟨id, t2, hK⟩ := ob_elim hK
    obtain ⟨v, t3, hK⟩ := ob_elim hK
    split at hK
    · exact step_convert_int htt ‹_› hs t1 t2 ‹_› t3 hK hn
    · obtain ⟨n, t4, hK⟩ := ob_elim hK
      exact step_convert_fi htt ‹_› hs t1 t2 ‹_› t3 t4 hK hn
    · split at hK
      · obtain ⟨ie, t4, ⟨c1, c2⟩, hK⟩ := ob_elim hK
        obtain ⟨⟨m, cs⟩, t5, hK⟩ := ob_elim hK
        obtain ⟨bs, t6, hK⟩ := ob_elim hK
        exact step_convert_bytes htt ‹_› hs t1 t2 ‹_› ‹_› t4 c1 c2 t3 t5 t6 hK hn
      · exact step_convert_if htt ‹_› hs t1 t2 ‹_› t3 hK hn
      · obtain ⟨ie, t4, c1, hK⟩ := ob_elim hK
        exact step_convert_str htt ‹_› hs t1 t2 ‹_› ‹_› t4 c1 t3 hK hn
      · exact hK.elim
  · split at hK
    · obtain ⟨xs, t1, hK⟩ := ob_elim hK
      exact builtin_step htt ‹_› ‹_› hs t1 hK hn
    · exact hK.elim
  · exact hK.elim
end
end Go.Lift
