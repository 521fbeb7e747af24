import Derived.Test.YtilehfdplgciiaaRows
import Derived.Test.YtilehfdplgciiaaWWords
import Derived.OpenShut
import Derived.ProofKit
import Derived.KernelRfl
/-! An array of sixteen bytes that came in by value: opened, and read again in any world. -/
namespace Go.Proofs.Ytilehfdplgciiaa.Hand
open Go.RowKit Go.Proofs.YtilehfdplgciiaaW.PrintWords
set_option linter.unusedVariables false

theorem cellsArr : Try.prog.cellsOf 22 = 16 := by kernel_rfl
theorem cellsU8 : Try.prog.cellsOf 5 = 1 := by kernel_rfl
def litU8 {H : Type} (n : Int) : DataW H := .lit (.int .u8 n)
theorem mapM_all {α β : Type} (f : α → Option β) (g : α → β) : ∀ l : List α, (∀ a ∈ l, f a = some (g a)) → l.mapM f = some (l.map g)
  | [], _ => rfl
  | a :: l, h => by
    rw [List.mapM_cons, h a (by simp), mapM_all f g l (fun b hb => h b (by simp [hb]))]
    rfl
theorem nums_part (bs : List Int) (i : Nat) (hi : i < bs.length) : ((nums .u8 bs).drop (i * 1)).take 1 = [.int .u8 (bs.getD i 0)] := by
  rw [Nat.mul_one]
  unfold nums
  rw [← List.map_drop, List.drop_eq_getElem_cons hi, List.map_cons, List.take_succ_cons, List.take_zero]
  simp [List.getD_eq_getElem?_getD, hi]
theorem arr_reads {H : Type} (enc : TypeId × Value → H) (bs : List Int) (hl : bs.length = 16) (hw : ∀ x ∈ bs, (Lit.int .u8 x).wf = true) (W' : World) (sp : Nat → Bool) :
    DataW.Trod enc Try.prog W' 0 sp true 22 (.agg (nums .u8 bs).toArray) (.agg (bs.map litU8)) [] := by
  refine ⟨2, ?_⟩
  have h1 : ∀ i ∈ List.range 16, DataW.trod enc Try.prog W' 0 sp true 1 5 (((nums .u8 bs).drop (i * 1)).take 1) = some ((litU8 (bs.getD i 0) : DataW H), ([] : List MemPlace)) := by
    intro i hi
    have hi2 : i < bs.length := by rw [hl]; exact List.mem_range.1 hi
    rw [nums_part bs i hi2]
    have hb : (Lit.int .u8 (bs.getD i 0)).wf = true := by
      rw [List.getD_eq_getElem?_getD, List.getElem?_eq_getElem hi2]
      exact hw _ (List.getElem_mem hi2)
    unfold DataW.trod
    rw [Try.underlying5]
    simp only [hb, and_self, if_true]
    rfl
  have h2 := mapM_all _ (fun i => ((litU8 (bs.getD i 0) : DataW H), ([] : List MemPlace))) (List.range 16) h1
  show DataW.trod enc Try.prog W' 0 sp true 2 22 (nums .u8 bs) = _
  unfold DataW.trod
  rw [Try.underlying22]
  simp only [cellsArr, cellsU8, nums_length, hl, if_true]
  rw [h2]
  simp only [Option.map_some, List.map_map, Option.some.injEq, Prod.mk.injEq, DataW.agg.injEq]
  refine ⟨?_, by simp⟩
  apply List.ext_getElem?
  intro i
  by_cases hi : i < 16
  · rw [List.getElem?_map, List.getElem?_map, List.getElem?_range hi, List.getElem?_eq_getElem (by omega)]
    simp [List.getD_eq_getElem?_getD, List.getElem?_eq_getElem (show i < bs.length by omega)]
  · rw [List.getElem?_eq_none (by simp; omega), List.getElem?_eq_none (by simp; omega)]
set_option maxRecDepth 100000 in
theorem open_arr {H : Type} {enc : TypeId × Value → H} {W : World} {sp : Nat → Bool} {base : Nat} {v : Value} {d : DataW H} {p : List MemPlace} (hv : Value.okWide Try.prog W .any base 22 v)
    (h : DataW.Trod enc Try.prog W 0 sp true 22 v d p) :
    ∃ bs : List Int, bs.length = 16 ∧ (∀ x ∈ bs, (Lit.int .u8 x).wf = true) ∧ v = .agg (nums .u8 bs).toArray ∧ d = .agg (bs.map litU8) ∧ p = [] := by
  obtain ⟨cs, rfl, hsz, _⟩ : ∃ cs, v = .agg cs ∧ cs.size = Try.prog.cellsOf 22 ∧ Row.okWide Try.prog W .any base 22 cs := by
    simpa [Value.okWide, Try.underlying22] using hv
  obtain ⟨fuel, hf⟩ := h
  obtain ⟨xs, m, rfl, hx, hcl, hxl, hget⟩ := DataW.trod_array Try.underlying22 hf
  rw [cellsArr] at hsz hcl
  simp only [cellsU8] at hget
  obtain ⟨l⟩ := cs
  have hl : l.length = 16 := hsz
  have hone : ∀ i, i < 16 → ∃ n : Int, l[i]? = some (.int .u8 n) ∧ xs[i]? = some (litU8 n, []) ∧ (Lit.int .u8 n).wf = true := by
    intro i hi
    have e1 := hget i hi
    rw [List.getElem?_eq_getElem (show i < xs.length by omega)] at e1
    obtain ⟨n, e2, e3, hw⟩ := DataW.trod_int Try.underlying5 e1
    refine ⟨n, ?_, by rw [List.getElem?_eq_getElem (show i < xs.length by omega), e3]; rfl, hw⟩
    have e4 : (l.drop i).take 1 = [.int .u8 n] := by
      rw [Nat.mul_one] at e2
      exact e2
    rw [List.drop_eq_getElem_cons (show i < l.length by omega), List.take_succ_cons, List.take_zero] at e4
    rw [List.getElem?_eq_getElem (show i < l.length by omega)]
    simpa using e4
  refine ⟨l.map (fun v => match v with | .int _ n => n | _ => 0), by simp [hl], ?_, ?_, ?_, ?_⟩
  · intro x hx
    obtain ⟨v, hv, rfl⟩ := List.mem_map.1 hx
    obtain ⟨i, hi, rfl⟩ := List.mem_iff_getElem.1 hv
    obtain ⟨n, e1, _, hw⟩ := hone i (by omega)
    rw [List.getElem?_eq_getElem hi] at e1
    rw [Option.some.inj e1]
    exact hw
  · have : l = nums .u8 (l.map (fun v => match v with | .int _ n => n | _ => 0)) := by
      apply List.ext_getElem?
      intro i
      by_cases hi : i < 16
      · obtain ⟨n, e1, _, _⟩ := hone i hi
        unfold nums
        rw [List.getElem?_map, List.getElem?_map, e1]
        rfl
      · rw [List.getElem?_eq_none (by omega), List.getElem?_eq_none (by simp [nums]; omega)]
    rw [← this]
  · have e := congrArg Prod.fst hx
    simp only at e
    rw [e]
    congr 1
    apply List.ext_getElem?
    intro i
    by_cases hi : i < 16
    · obtain ⟨n, e1, e2, _⟩ := hone i hi
      rw [List.getElem?_map, List.getElem?_map, List.getElem?_map, e1, e2]
      rfl
    · rw [List.getElem?_eq_none (by simp; omega), List.getElem?_eq_none (by simp; omega)]
  · have e := congrArg Prod.snd hx
    simp only at e
    rw [e, List.flatMap_eq_nil_iff]
    intro y hy
    obtain ⟨i, hi, rfl⟩ := List.mem_iff_getElem.1 hy
    obtain ⟨n, _, e2, _⟩ := hone i (by omega)
    rw [List.getElem?_eq_getElem hi] at e2
    rw [Option.some.inj e2]
end Go.Proofs.Ytilehfdplgciiaa.Hand
