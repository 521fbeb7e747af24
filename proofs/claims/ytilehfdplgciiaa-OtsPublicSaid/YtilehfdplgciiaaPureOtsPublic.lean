import Derived.Test.YtilehfdplgciiaaPuD
import Derived.Test.YtilehfdplgciiaaPuC
import Derived.Test.YtilehfdplgciiaaPL11x5
/-! The law's plain side. -/
namespace Go.Proofs.Ytilehfdplgciiaa.Pure
open Go.RowKit Go.Proofs.Ytilehfdplgciiaa.PL11 Go.Proofs.Ytilehfdplgciiaa.Plain Go.Proofs.YtilehfdplgciiaaW.PrintWords Go.Proofs.YtilehfdplgciiaaW.PrintLast
set_option linter.unusedVariables false

theorem OtsPublic : certpathlaw11_OtsPublic.Pure := by
  intro a0 a1 a2 h0 h1 h2
  refine ⟨61, ?_⟩
  unfold certpathlaw11_OtsPublic.f
  rw [ident_f, Option.bind_some, seed_f, Option.bind_some, ots_pub_f _ _ _ 61 (by decide), Option.bind_some, Option.bind_some, Option.bind_some, ref_pub_f _ _ _ 61 (by decide), Option.bind_some, if_pos rfl]
  have e : ((pubR (ident a0) (seed (wrap64 a0)) (wrap64 a1)).2 != (pubR (ident a0) (seed (wrap64 a0)) (wrap64 a1)).2) = false := by simp
  rw [e, certpathlaw11_OtsPublic.j0, if_neg (by decide), ident_f, Option.bind_some, seed_f, Option.bind_some, ots_pub_f _ _ _ 60 (by decide), Option.bind_some, awake_f, Option.bind_some, if_pos rfl]
  have hc : chk (ident a0) (seed (wrap64 a0)) a2 = if a2 < 0 ∨ a2 ≥ 256 then 1 else 0 := by
    unfold chk
    rw [if_pos ⟨ident_size _, seed_size _⟩]
  unfold pubR
  rw [hc]
  by_cases c1 : a2 ≥ 0
  · rw [if_pos c1]
    by_cases c2 : a2 < 256
    · rw [if_neg (show ¬ (a2 < 0 ∨ a2 ≥ 256) by omega), if_pos rfl]
      simp [c2]
    · rw [if_pos (show (a2 < 0 ∨ a2 ≥ 256) by omega), if_neg (by decide)]
      simp [c2]
  · rw [if_neg c1, if_pos (show (a2 < 0 ∨ a2 ≥ 256) by omega), if_neg (by decide)]
    rfl
end Go.Proofs.Ytilehfdplgciiaa.Pure
