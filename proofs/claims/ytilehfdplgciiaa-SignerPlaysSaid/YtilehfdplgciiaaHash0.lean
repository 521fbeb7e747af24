import Derived.Test.YtilehfdplgciiaaProg
import Derived.Test.YtilehfdplgciiaaSha
import Derived.WalkKit
import Derived.KernelRfl
import Derived.Outline
import Derived.Laws.Rows
import Derived.Laws.Tables
import Derived.Laws.CopyOwn
namespace Go.Proofs.Ytilehfdplgciiaa.Hand
open Go.RowKit Go.Proofs.YtilehfdplgciiaaW.PrintWords
set_option linter.unusedVariables false

set_option maxRecDepth 100000 in
theorem rounds_any (w : World) :
    Calls Try.prog 97 #[] w fun e w' => e = .returned (.agg (ws K64)) ∧ Below w.heap.size w w' := by
  go_enter Try.func97, Try.ntmps97
  go_wp2_with (first | (refine wpList_build rfl 111 _ rfl (by kernel_rfl) ?_) | (refine wpList_store_row rfl 111 _ _ rfl w.heap.size (ws K64) rfl (by kernel_rfl) 111 _ (heap_alloc_new w _) (by kernel_rfl) (by kernel_rfl) (ws_one _) ?_))
  refine bodyPost_ret (v := .agg (ws K64)) ?_ rfl ⟨rfl, below_setRow (below_alloc (Below.refl _ _) _) (Nat.le_refl _) _⟩
  exact results_cell_row Try.results97 _ _ w.heap.size 111 _ (0, 0) _ rfl (setRow_heap _ _ _ _ _ _ (heap_alloc_new w _)) Try.underlying111 rfl (by kernel_rfl)

set_option maxRecDepth 100000 in
theorem initial_any (w : World) :
    Calls Try.prog 94 #[] w fun e w' => e = .returned (.agg (ws IV)) ∧ Below w.heap.size w w' := by
  go_enter Try.func94, Try.ntmps94
  go_wp2_with (first | (refine wpList_build rfl 116 _ rfl (by kernel_rfl) ?_) | (refine wpList_store_row rfl 116 _ _ rfl w.heap.size (ws IV) rfl (by kernel_rfl) 116 _ (heap_alloc_new w _) (by kernel_rfl) (by kernel_rfl) (ws_one _) ?_))
  refine bodyPost_ret (v := .agg (ws IV)) ?_ rfl ⟨rfl, below_setRow (below_alloc (Below.refl _ _) _) (Nat.le_refl _) _⟩
  exact results_cell_row Try.results94 _ _ w.heap.size 116 _ (0, 0) _ rfl (setRow_heap _ _ _ _ _ _ (heap_alloc_new w _)) Try.underlying116 rfl (by kernel_rfl)

end Go.Proofs.Ytilehfdplgciiaa.Hand
