import Derived.Test.YtilehfdplgciiaaPuD
import Derived.Test.YtilehfdplgciiaaPuC
import Derived.Test.YtilehfdplgciiaaPL11x7
/-! The law's plain side. -/
namespace Go.Proofs.Ytilehfdplgciiaa.Pure
open Go.RowKit Go.Proofs.Ytilehfdplgciiaa.PL11 Go.Proofs.Ytilehfdplgciiaa.Plain Go.Proofs.YtilehfdplgciiaaW.PrintWords Go.Proofs.YtilehfdplgciiaaW.PrintLast
set_option linter.unusedVariables false

theorem OtsBack : certpathlaw11_OtsBack.Pure := by
  intro a0 a1 a2 h0 h1 h2
  refine ⟨60, ?_⟩
  unfold certpathlaw11_OtsBack.f
  by_cases hs : (a2.size : Int) > 60
  · rw [if_pos hs, awake_f]
    rfl
  · have hl : 0 ≤ a1 ∧ a1 ≤ 255 := u8_wf h1
    have hw : wrap64 a1 = a1 := w64 _ (by omega) (by omega)
    have hc : chk (ident a0) (seed (wrap64 a0)) a1 = 0 := by
      unfold chk
      rw [if_pos ⟨ident_size _, seed_size _⟩, if_neg (by omega)]
    have hp : pubR (ident a0) (seed (wrap64 a0)) a1 = (pub (ident a0) a1 (joined (pubG (ident a0) (seed (wrap64 a0)) a1) 35), 0) := by
      unfold pubR
      rw [if_pos hc]
    have hs2 : (signR (ident a0) (seed (wrap64 a0)) a1 (dig a2)).2 = 0 := by
      unfold signR
      rw [if_pos hc, if_pos (dig_size _)]
    rw [if_neg hs, ident_f, Option.bind_some, seed_f, Option.bind_some, dig_f a2 (by omega), Option.bind_some, hw, ots_sign_f _ _ _ _ 60 (by decide), Option.bind_some, Option.bind_some, Option.bind_some,
      ots_rec_f _ _ _ _ 60 (by decide), Option.bind_some, Option.bind_some, Option.bind_some, ots_pub_f _ _ _ 60 (by decide), Option.bind_some, awake_f, Option.bind_some, if_pos rfl, if_pos hs2, back _ _ _ _ hc (dig_size _), hp, if_pos rfl, if_pos rfl, if_pos rfl]
    show some ((((sh _).size : Int) == 16)) = some true
    rw [sh_size]
    rfl
end Go.Proofs.Ytilehfdplgciiaa.Pure
