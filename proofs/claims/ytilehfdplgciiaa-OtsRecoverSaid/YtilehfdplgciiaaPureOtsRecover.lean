import Derived.Test.YtilehfdplgciiaaPuD
import Derived.Test.YtilehfdplgciiaaPuB
/-! The law's plain side. -/
namespace Go.Proofs.Ytilehfdplgciiaa.Pure
open Go.RowKit Go.Proofs.Ytilehfdplgciiaa.PL11 Go.Proofs.Ytilehfdplgciiaa.Plain Go.Proofs.YtilehfdplgciiaaW.PrintWords Go.Proofs.YtilehfdplgciiaaW.PrintLast
set_option linter.unusedVariables false

theorem OtsRecover : certpathlaw11_OtsRecover.Pure := by
  intro a0 a1 a2 a3 l4 h0 h1 h2 h3 hl4 hl8 hr
  refine ⟨70, ?_⟩
  unfold certpathlaw11_OtsRecover.f
  have hj : ∀ b : Bool, (b = false → a2.size ≤ 60 ∧ a3.size ≤ 60) → certpathlaw11_OtsRecover.j0 70 a0 a1 a2 a3 l4 b = some true := by
    intro b hb
    rw [certpathlaw11_OtsRecover.j0]
    cases b with
    | true => rw [if_pos rfl, awake_f]; rfl
    | false =>
      obtain ⟨hs2, hs3⟩ := hb rfl
      have hl : 0 ≤ a1 ∧ a1 ≤ 255 := u8_wf h1
      have hw : wrap64 a1 = a1 := w64 _ (by omega) (by omega)
      have hc : chk (ident a0) (seed (wrap64 a0)) a1 = 0 := by
        unfold chk
        rw [if_pos ⟨ident_size _, seed_size _⟩, if_neg (by omega)]
      have hsz : (signR (ident a0) (seed (wrap64 a0)) a1 (dig a2)).1.size = 560 := by
        unfold signR
        rw [if_pos hc, if_pos (dig_size _)]
        exact joined_size _ (sigG_size _ _ _ _) 35
      obtain ⟨sg, q, hdm⟩ := damage_f l4 (signR (ident a0) (seed (wrap64 a0)) a1 (dig a2)).1 (by omega) (by omega)
      rw [if_neg (by decide), show certpathmade_New.f l4 = some (l4, 0) from rfl, Option.bind_some, ident_f, Option.bind_some, seed_f, Option.bind_some, dig_f a2 (by omega), Option.bind_some, hw, ref_sign_f _ _ _ _ 69 (by decide), Option.bind_some]
      show ((certpathmade_Damage.f l4 0 _).bind _) = _
      rw [hdm, Option.bind_some, Option.bind_some, dig_f a3 (by omega), Option.bind_some, ots_rec_f _ _ _ _ 69 (by decide), Option.bind_some, Option.bind_some, Option.bind_some, ref_rec_f _ _ _ _ 69 (by decide), Option.bind_some, awake_f, Option.bind_some, if_pos rfl, if_pos rfl]
      simp
  by_cases c1 : (a2.size : Int) > 60
  · rw [if_pos c1]
    exact hj true (by simp)
  · rw [if_neg c1]
    exact hj _ (by simp; omega)
end Go.Proofs.Ytilehfdplgciiaa.Pure
