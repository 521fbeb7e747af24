import Derived.Test.YtilehfdplgciiaaProg
import Derived.Test.YtilehfdplgciiaaWEqStruct
import Derived.KernelRfl
import Derived.WalkKit
/-! '==' of two keys. -/
namespace Go.Proofs.Ytilehfdplgciiaa.Hand
open Go.RowKit Go.Proofs.YtilehfdplgciiaaW.PrintWords
set_option linter.unusedVariables false

theorem guard_key : Try.prog.eqGuardType Try.prog.depth 58 = false := by kernel_rfl
theorem held_key : Try.prog.stoodInHeld 58 = false := by kernel_rfl
theorem part_key (t : TypeId) (cs : Array Value) (i : Nat) (v : Value) (hia : ∀ w : World, (isAgg t).run Try.prog w = .ok false w) (h : cs[i]? = some v) (w : World) : (part t cs i).run Try.prog w = .ok v w := by
  unfold part
  simp only [Sem.run_bind, hia, Result.andThen_ok, Bool.false_eq_true, if_false, h, Sem.run_pure]
theorem agg_int (w : World) : (isAgg 3).run Try.prog w = .ok false w := by kernel_rfl
theorem agg_str (w : World) : (isAgg 9).run Try.prog w = .ok false w := by kernel_rfl
theorem key_eq (a b : Int) (id id2 rt rt2 : ByteArray) (w : World) : (Op.equalIn 10000 58 (.agg #[.int .i64 a, .string id, .string rt]) (.agg #[.int .i64 b, .string id2, .string rt2])).run Try.prog w = .ok ((a == b) && ((id.toList == id2.toList) && (rt.toList == rt2.toList))) w := by
  refine eqA_of (d := 9999) Try.underlying58 held_key ?_
  refine eqf_cons rfl (part_key _ _ _ _ agg_int rfl w) (part_key _ _ _ _ agg_int rfl w) (run_equalIn_int w 9998 3 .i64 .i64 a b Try.underlying3) ?_
  refine eqf_cons rfl (part_key _ _ _ _ agg_str rfl w) (part_key _ _ _ _ agg_str rfl w) (run_equalIn_string w 9998 9 id id2 Try.underlying9) ?_
  exact eqf_last rfl (part_key _ _ _ _ agg_str rfl w) (part_key _ _ _ _ agg_str rfl w) (run_equalIn_string w 9998 9 rt rt2 Try.underlying9)
theorem key_same (a : Int) (id rt : ByteArray) (w : World) : (Op.equalIn 10000 58 (.agg #[.int .i64 a, .string id, .string rt]) (.agg #[.int .i64 a, .string id, .string rt])).run Try.prog w = .ok true w := by
  rw [key_eq]
  simp
end Go.Proofs.Ytilehfdplgciiaa.Hand
