import Derived.Test.YtilehfdplgciiaaPuD
import Derived.Test.YtilehfdplgciiaaPuC
import Derived.Test.YtilehfdplgciiaaPL11x6
/-! The law's plain side. -/
namespace Go.Proofs.Ytilehfdplgciiaa.Pure
open Go.RowKit Go.Proofs.Ytilehfdplgciiaa.PL11 Go.Proofs.Ytilehfdplgciiaa.Plain Go.Proofs.YtilehfdplgciiaaW.PrintWords Go.Proofs.YtilehfdplgciiaaW.PrintLast
set_option linter.unusedVariables false

theorem j4 (a s d g : ByteArray) (l : Int) (k : Nat) (hk : 70 ≤ k) : certpathlaw11_OtsErrors.j4 k a s d g l = some true := by
  obtain ⟨k, rfl⟩ : ∃ k', k = k' + 1 := ⟨k - 1, by omega⟩
  rw [certpathlaw11_OtsErrors.j4, ots_pub_f _ _ _ k (by omega), Option.bind_some, ref_pub_f _ _ _ k (by omega), Option.bind_some, ots_sign_f _ _ _ _ k (by omega), Option.bind_some, ref_sign_f _ _ _ _ k (by omega), Option.bind_some,
    ots_rec_f _ _ _ _ k (by omega), Option.bind_some, ref_rec_f _ _ _ _ k (by omega), Option.bind_some, awake_f, Option.bind_some, if_pos rfl, if_pos rfl, if_pos rfl, if_pos rfl, if_pos rfl, if_pos rfl]
  simp
theorem j3 (a s d g : ByteArray) (l m : Int) (k : Nat) (hk : 71 ≤ k) : certpathlaw11_OtsErrors.j3 k a s d g l m = some true := by
  obtain ⟨k, rfl⟩ : ∃ k', k = k' + 1 := ⟨k - 1, by omega⟩
  rw [certpathlaw11_OtsErrors.j3]
  split
  · exact j4 _ _ _ _ _ _ (by omega)
  · exact j4 _ _ _ _ _ _ (by omega)
theorem j2 (a s d g : ByteArray) (l m : Int) (k : Nat) (hk : 72 ≤ k) (hd : d.size ≤ 60) : certpathlaw11_OtsErrors.j2 k a s d g l m = some true := by
  obtain ⟨k, rfl⟩ : ∃ k', k = k' + 1 := ⟨k - 1, by omega⟩
  rw [certpathlaw11_OtsErrors.j2]
  split
  · rw [dig_f _ (by omega), Option.bind_some]
    exact j3 _ _ _ _ _ _ _ (by omega)
  · exact j3 _ _ _ _ _ _ _ (by omega)
theorem j1 (a s d g : ByteArray) (l m : Int) (k : Nat) (hk : 73 ≤ k) (hd : d.size ≤ 60) : certpathlaw11_OtsErrors.j1 k a s d g l m = some true := by
  obtain ⟨k, rfl⟩ : ∃ k', k = k' + 1 := ⟨k - 1, by omega⟩
  rw [certpathlaw11_OtsErrors.j1]
  split
  · rw [seed_f, Option.bind_some]
    exact j2 _ _ _ _ _ _ _ (by omega) hd
  · exact j2 _ _ _ _ _ _ _ (by omega) hd
theorem j0 (a s d g : ByteArray) (l m : Int) (b : Bool) (k : Nat) (hk : 74 ≤ k) (hd : b = false → d.size ≤ 60) : certpathlaw11_OtsErrors.j0 k a s d g l m b = some true := by
  obtain ⟨k, rfl⟩ : ∃ k', k = k' + 1 := ⟨k - 1, by omega⟩
  rw [certpathlaw11_OtsErrors.j0]
  cases b with
  | true => rw [if_pos rfl, awake_f]; rfl
  | false =>
    have hd := hd rfl
    rw [if_neg (by decide)]
    split
    · rw [ident_f, Option.bind_some]
      exact j1 _ _ _ _ _ _ _ (by omega) hd
    · exact j1 _ _ _ _ _ _ _ (by omega) hd
theorem OtsErrors : certpathlaw11_OtsErrors.Pure := by
  intro a0 a1 a2 a3 a4 a5 _ _ _ _ _ _
  refine ⟨74, ?_⟩
  unfold certpathlaw11_OtsErrors.f
  split
  · exact j0 _ _ _ _ _ _ _ _ (by decide) (by simp)
  · split
    · exact j0 _ _ _ _ _ _ _ _ (by decide) (by simp)
    · split
      · exact j0 _ _ _ _ _ _ _ _ (by decide) (by simp)
      · exact j0 _ _ _ _ _ _ _ _ (by decide) (fun _ => by omega)
end Go.Proofs.Ytilehfdplgciiaa.Pure
