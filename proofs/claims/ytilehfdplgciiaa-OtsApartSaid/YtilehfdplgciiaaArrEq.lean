import Derived.Test.YtilehfdplgciiaaArr
import Derived.Laws.StructEq
import Derived.WalkKit
/-! '==' of two arrays of sixteen bytes. -/
namespace Go.Proofs.Ytilehfdplgciiaa.Hand
open Go.RowKit Go.Proofs.YtilehfdplgciiaaW.PrintWords
set_option linter.unusedVariables false
theorem part_u8 (bs : List Int) (hl : bs.length = 16) (i : Nat) (hi : i < 16) (w : World) : (part 5 (nums .u8 bs).toArray (i * 1)).run Try.prog w = .ok (.int .u8 (bs.getD i 0)) w := by
  have hia : ∀ w : World, (isAgg 5).run Try.prog w = .ok false w := fun _ => by kernel_rfl
  have h1 : (nums .u8 bs).toArray[i * 1]? = some (.int .u8 (bs.getD i 0)) := by
    rw [Nat.mul_one, List.getElem?_toArray]
    unfold nums
    rw [List.getElem?_map, List.getElem?_eq_getElem (show i < bs.length by omega), List.getD_eq_getElem?_getD, List.getElem?_eq_getElem (show i < bs.length by omega)]
    rfl
  unfold part
  simp only [Sem.run_bind, hia, Result.andThen_ok, Bool.false_eq_true, if_false, h1, Sem.run_pure]
def eqRes : Bool → Option Bool × Unit
  | true => (none, ())
  | false => (some false, ())
theorem eq_loop (a b : List Int) (ha : a.length = 16) (hb : b.length = 16) (w : World) : ∀ l : List Nat, (∀ i ∈ l, i < 16) →
    (forIn l ((none : Option Bool), ()) fun i __s => do
            let __do_lift ← part 5 (nums IntKind.u8 a).toArray (i * 1)
            let __do_lift_1 ← part 5 (nums IntKind.u8 b).toArray (i * 1)
            let __do_lift ← Op.equalIn 9999 5 __do_lift __do_lift_1
            if (!__do_lift) = true then pure (ForInStep.done (some false, ())) else pure (ForInStep.yield (none, ())) : Sem (Option Bool × Unit)).run Try.prog w = .ok (eqRes (l.all fun i => a.getD i 0 == b.getD i 0)) w
  | [], _ => rfl
  | i :: l, h => by
    have hi := h i (by simp)
    have ih := eq_loop a b ha hb w l (fun j hj => h j (by simp [hj]))
    rw [List.forIn_cons]
    simp only [Sem.run_bind, part_u8 a ha i hi, part_u8 b hb i hi, Result.andThen_ok, run_equalIn_int w 9998 5 .u8 .u8 _ _ Try.underlying5, Sem.run_ite, Sem.run_pure, List.all_cons]
    by_cases hc : (a.getD i 0 == b.getD i 0) = true
    · simp only [hc, Bool.true_and, Bool.not_true, Bool.false_eq_true, if_false]
      simp only [Result.andThen_ok]
      exact ih
    · have hc2 : (a.getD i 0 == b.getD i 0) = false := by simpa using hc
      simp only [hc2, Bool.false_and, Bool.not_false, if_true]
      rfl
theorem eq_arr (a b : List Int) (ha : a.length = 16) (hb : b.length = 16) (w : World) : (Op.equalIn 10000 22 (.agg (nums .u8 a).toArray) (.agg (nums .u8 b).toArray)).run Try.prog w = .ok (decide (a = b)) w := by
  have hsz : ∀ w : World, (sizeOf 5).run Try.prog w = .ok 1 w := fun _ => by kernel_rfl
  unfold Op.equalIn
  simp only [Sem.run_bind, run_underlying Try.underlying22, Result.andThen_ok, hsz, Std.Legacy.Range.forIn_eq_forIn_range', Std.Legacy.Range.size]
  show ((forIn (List.range' 0 16) ((none : Option Bool), ()) fun i __s => do
            let __do_lift ← part 5 (nums IntKind.u8 a).toArray (i * 1)
            let __do_lift_1 ← part 5 (nums IntKind.u8 b).toArray (i * 1)
            let __do_lift ← Op.equalIn 9999 5 __do_lift __do_lift_1
            if (!__do_lift) = true then pure (ForInStep.done (some false, ())) else pure (ForInStep.yield (none, ())) : Sem (Option Bool × Unit)).run Try.prog w).andThen _ = _
  rw [eq_loop a b ha hb w _ (fun i hi => by simp at hi; omega)]
  have key : ((List.range' 0 16).all fun i => a.getD i 0 == b.getD i 0) = decide (a = b) := by
    rw [Bool.eq_iff_iff, List.all_eq_true, decide_eq_true_iff]
    constructor
    · intro h
      apply List.ext_getElem (by omega)
      intro i h1 h2
      have := h i (by simp; omega)
      rw [beq_iff_eq, List.getD_eq_getElem?_getD, List.getD_eq_getElem?_getD, List.getElem?_eq_getElem h1, List.getElem?_eq_getElem h2] at this
      exact this
    · rintro rfl i _
      simp
  rw [key]
  by_cases h : a = b
  · rw [decide_eq_true h]; rfl
  · rw [decide_eq_false h]; rfl
end Go.Proofs.Ytilehfdplgciiaa.Hand
