import Derived.Test.YtilehfdplgciiaaRows
import Derived.Test.YtilehfdplgciiaaWWords
import Derived.OpenShut
import Derived.SliceStrings
import Derived.ProofKit
import Derived.KernelRfl
import Derived.WideShapes
import Derived.Lib.SmallJoins
/-! Arguments of the laws, opened: slices of whole numbers and of strings, a key. -/
namespace Go.Proofs.Ytilehfdplgciiaa.Hand
open Go.RowKit Go.WideShapes Go.ChangeShapes Go.Proofs.YtilehfdplgciiaaW.PrintWords
set_option linter.unusedVariables false

set_option maxRecDepth 100000 in
theorem open_ints_arg {H : Type} {enc : TypeId × Value → H} {W : World} {base : Nat} {v : Value} {d : DataW H} {p : List MemPlace} (hv : Value.okWide Try.prog W .any base 27 v)
    (h : DataW.Trod enc Try.prog W 0 (fun _ => true) true 27 v d p) : ∃ (A : Option Addr) (c : Nat) (l : List Int), v = .slice A l.length c ∧ l.length ≤ c ∧ Kd.C (Kd.int .i64) W A l.length l := by
  obtain ⟨a, len, cap, rfl⟩ := okWide_slice Try.underlying27 hv
  obtain ⟨fuel, hf⟩ := h
  rcases open_ints Try.underlying27 Try.underlying3 (by kernel_rfl) hf with ⟨hcs, _⟩ | ⟨x, l, c, zs, hcs, _, hl, hm, hz, _, hcell, hwz⟩
  · simp [Value.cells] at hcs
    obtain ⟨rfl, rfl, rfl⟩ := hcs
    exact ⟨none, 0, [], rfl, Nat.le_refl _, Kd.C_of_reads (d := (0 : Int)) (h1 := fun _ => rfl) ⟨rfl, by simp, fun h => absurd h (Nat.lt_irrefl 0)⟩⟩
  · simp [Value.cells] at hcs
    obtain ⟨rfl, rfl, rfl⟩ := hcs
    have hz2 : zs.length = cap := by simpa using hz
    have hlen : (zs.take len).length = len := by rw [List.length_take]; omega
    have hC : Kd.C (Kd.int .i64) W (some x) (zs.take len).length (zs.take len) := by
      refine Kd.C_of_reads (d := (0 : Int)) (h1 := fun _ => rfl) ⟨rfl, by rw [hlen]; unfold maxLen at hm; omega, fun _ => ⟨x, rfl, fun j hj => ?_⟩⟩
      rw [hcell j (by omega)]
      simp [List.getD_eq_getElem?_getD, List.getElem?_take_of_lt (show j < len by omega)]
    exact ⟨some x, cap, zs.take len, by rw [hlen], by omega, hC⟩
set_option maxRecDepth 100000 in
theorem open_strs_arg {H : Type} {enc : TypeId × Value → H} {W : World} {base : Nat} {v : Value} {d : DataW H} {p : List MemPlace} (hv : Value.okWide Try.prog W .any base 26 v)
    (h : DataW.Trod enc Try.prog W 0 (fun _ => true) true 26 v d p) : ∃ (A : Option Addr) (c : Nat) (l : List ByteArray), v = .slice A l.length c ∧ l.length ≤ c ∧ Kd.C Kd.string W A l.length l := by
  obtain ⟨a, len, cap, rfl⟩ := okWide_slice Try.underlying26 hv
  obtain ⟨fuel, hf⟩ := h
  rcases open_strings Try.underlying26 Try.underlying9 (by kernel_rfl) hf with ⟨hcs, _⟩ | ⟨x, l, c, zs, hcs, _, hl, hm, hz, _, hcell, hwz⟩
  · simp [Value.cells] at hcs
    obtain ⟨rfl, rfl, rfl⟩ := hcs
    exact ⟨none, 0, [], rfl, Nat.le_refl _, Kd.C_of_reads (d := ByteArray.empty) (h1 := fun _ => rfl) ⟨rfl, by simp, fun h => absurd h (Nat.lt_irrefl 0)⟩⟩
  · simp [Value.cells] at hcs
    obtain ⟨rfl, rfl, rfl⟩ := hcs
    have hz2 : zs.length = cap := by simpa using hz
    have hlen : (zs.take len).length = len := by rw [List.length_take]; omega
    have hC : Kd.C Kd.string W (some x) (zs.take len).length (zs.take len) := by
      refine Kd.C_of_reads (d := ByteArray.empty) (h1 := fun _ => rfl) ⟨rfl, by rw [hlen]; unfold maxLen at hm; omega, fun _ => ⟨x, rfl, fun j hj => ?_⟩⟩
      rw [hcell j (by omega)]
      simp [List.getD_eq_getElem?_getD, List.getElem?_take_of_lt (show j < len by omega)]
    exact ⟨some x, cap, zs.take len, by rw [hlen], by omega, hC⟩
set_option maxRecDepth 100000 in
theorem open_key_arg {H : Type} {enc : TypeId × Value → H} {W : World} {base : Nat} {v : Value} {d : DataW H} {p : List MemPlace} (hv : Value.okWide Try.prog W .any base 58 v)
    (h : DataW.Trod enc Try.prog W 0 (fun _ => true) true 58 v d p) : ∃ (h : Int) (id rt : ByteArray), v = .agg #[.int .i64 h, .string id, .string rt] ∧ (Lit.int .i64 h).wf = true := by
  obtain ⟨v0, v1, v2, y0, y1, y2, n, rfl, rfl, rfl, h0, h1, h2⟩ := Go.Joins.open_agg3 Try.underlying58 (by kernel_rfl) (by kernel_rfl) hv h
  obtain ⟨a, e0, _, hw⟩ := DataW.trod_int Try.underlying3 h0
  obtain ⟨b, e1, _, _⟩ := DataW.trod_string Try.underlying9 h1
  obtain ⟨c, e2, _, _⟩ := DataW.trod_string Try.underlying9 h2
  simp at e0 e1 e2
  exact ⟨a, b, c, by rw [e0, e1, e2], hw⟩
end Go.Proofs.Ytilehfdplgciiaa.Hand
