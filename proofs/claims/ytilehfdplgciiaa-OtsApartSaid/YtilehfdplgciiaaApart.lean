import Derived.Test.YtilehfdplgciiaaDig
/-! Two different digests: each has a digit that is less than the other's. -/
namespace Go.Proofs.Ytilehfdplgciiaa.Hand
open Go.RowKit Go.Proofs.YtilehfdplgciiaaW.PrintWords
set_option linter.unusedVariables false

def GE (l m : List Int) : Prop := ∀ i : Nat, m.getD i 0 ≤ l.getD i 0
theorem GE.tail {x y : Int} {l m : List Int} (h : GE (x :: l) (y :: m)) : y ≤ x ∧ GE l m :=
  ⟨by simpa using h 0, fun i => by simpa using h (i + 1)⟩
theorem nibs_cons (x : Int) (t : List Int) : nibs (x :: t) = x / 16 :: x % 16 :: nibs t := rfl
theorem short_cons (x : Int) (t : List Int) : short (x :: t) = lack x + short t := by unfold short; rw [List.map_cons, List.sum_cons]
theorem ge_nibs : ∀ (a b ta tb : List Int), a.length = b.length → GE (nibs a ++ ta) (nibs b ++ tb) → short a ≤ short b ∧ (short a = short b → a = b) ∧ GE ta tb
  | [], [], ta, tb, _, h => ⟨Int.le_refl _, fun _ => rfl, h⟩
  | x :: a, y :: b, ta, tb, hl, h => by
    rw [nibs_cons, nibs_cons] at h
    obtain ⟨h1, h⟩ := GE.tail h
    obtain ⟨h2, h⟩ := GE.tail h
    obtain ⟨e1, e2, e3⟩ := ge_nibs a b ta tb (by simpa using hl) h
    rw [short_cons, short_cons]
    unfold lack
    refine ⟨by omega, fun e => ?_, e3⟩
    have e4 : short a = short b := by omega
    rw [e2 e4, show x = y by omega]
theorem ge_tail3 {s t : Int} (h : GE (tail3 s) (tail3 t)) : t ≤ s := by
  have h0 : t / 256 ≤ s / 256 := h 0
  have h1 : t / 16 % 16 ≤ s / 16 % 16 := h 1
  have h2 : t % 16 ≤ s % 16 := h 2
  omega
theorem ge_same {a b : List Int} (hl : a.length = b.length) (h : GE (digits a) (digits b)) : a = b := by
  obtain ⟨e1, e2, e3⟩ := ge_nibs a b _ _ hl h
  exact e2 (by have := ge_tail3 e3; omega)
theorem some_less {a b : List Int} (hl : a.length = b.length) (h : a ≠ b) : ∃ i : Nat, i < (digits a).length ∧ rd (digits a) (i : Int) < rd (digits b) (i : Int) := by
  by_cases hg : GE (digits a) (digits b)
  · exact absurd (ge_same hl hg) h
  · obtain ⟨i, hi⟩ := Classical.not_forall.1 hg
    refine ⟨i, ?_, ?_⟩
    · rcases Nat.lt_or_ge i (digits a).length with h1 | h1
      · exact h1
      · have hl2 : (digits a).length = (digits b).length := by unfold digits; rw [List.length_append, List.length_append, nibs_len, nibs_len, hl]; rfl
        rw [List.getD_eq_getElem?_getD, List.getD_eq_getElem?_getD, List.getElem?_eq_none h1, List.getElem?_eq_none (by omega)] at hi
        exact absurd (Int.le_refl _) hi
    · show (digits a).getD (i : Int).toNat 0 < (digits b).getD (i : Int).toNat 0
      rw [Int.toNat_natCast]
      omega
/-- One of the first k digits is less. -/
def lessB (x y : List Int) (k : Nat) : Bool := (List.range k).any fun i => decide (rd x (i : Int) < rd y (i : Int))
theorem lessB_zero (x y : List Int) : lessB x y 0 = false := rfl
theorem lessB_succ (x y : List Int) (k : Nat) : lessB x y (k + 1) = (lessB x y k || decide (rd x (k : Int) < rd y (k : Int))) := by
  unfold lessB
  rw [List.range_succ, List.any_append]
  simp
theorem lessB_all {a b : List Int} (hl : a.length = b.length) (h : a ≠ b) : lessB (digits a) (digits b) (digits a).length = true := by
  obtain ⟨i, h1, h2⟩ := some_less hl h
  unfold lessB
  rw [List.any_eq_true]
  exact ⟨i, List.mem_range.2 h1, decide_eq_true h2⟩
end Go.Proofs.Ytilehfdplgciiaa.Hand
