import Derived.Test.YtilehfdplgciiaaSha
/-! SHA-256 over a whole message, in plain Lean: blocks, padding, the digest. -/
namespace Go.Proofs.Ytilehfdplgciiaa.Hand
open Go.RowKit Go.Proofs.YtilehfdplgciiaaW.PrintWords
set_option linter.unusedVariables false

/-- All full blocks of a list of bytes: the state behind them, and what is left. -/
def comp (h all : List Int) : List Int × List Int := if h64 : 64 ≤ all.length then comp (blockF h (all.take 64)) (all.drop 64) else (h, all)
termination_by all.length
decreasing_by simp; omega
theorem comp_more (h all : List Int) (h64 : 64 ≤ all.length) : comp h all = comp (blockF h (all.take 64)) (all.drop 64) := by rw [comp, dif_pos h64]
theorem comp_done (h all : List Int) (h64 : all.length < 64) : comp h all = (h, all) := by rw [comp, dif_neg (by omega)]
theorem comp_len (h all : List Int) (hh : h.length = 8) : (comp h all).1.length = 8 := by
  induction hn : all.length using Nat.strongRecOn generalizing h all with
  | _ n ih =>
    by_cases h64 : 64 ≤ all.length
    · rw [comp_more _ _ h64]
      exact ih (all.drop 64).length (by rw [List.length_drop]; omega) _ _ (blockF_len _ _ hh) rfl
    · rw [comp_done _ _ (by omega)]
      exact hh
theorem comp_rest (h all : List Int) : (comp h all).2.length < 64 := by
  induction hn : all.length using Nat.strongRecOn generalizing h all with
  | _ n ih =>
    by_cases h64 : 64 ≤ all.length
    · rw [comp_more _ _ h64]
      exact ih (all.drop 64).length (by rw [List.length_drop]; omega) _ _ rfl
    · rw [comp_done _ _ (by omega)]
      show all.length < 64
      omega
theorem comp_append (h a b : List Int) : comp h (a ++ b) = comp (comp h a).1 ((comp h a).2 ++ b) := by
  induction hn : a.length using Nat.strongRecOn generalizing h a with
  | _ n ih =>
    by_cases h64 : 64 ≤ a.length
    · rw [comp_more h a h64, comp_more h (a ++ b) (by rw [List.length_append]; omega), List.take_append_of_le_length h64, List.drop_append_of_le_length h64]
      exact ih (a.drop 64).length (by rw [List.length_drop]; omega) _ _ rfl
    · rw [comp_done h a (by omega)]
/-- A stream's state behind a message m. -/
def StOk (hs rest : List Int) (m : List Int) : Prop := hs.length = 8 ∧ (m = [] → rest = []) ∧ (m ≠ [] → comp IV m = (hs, rest))
theorem StOk.start (hs : List Int) (h : hs.length = 8) : StOk hs [] [] := ⟨h, fun _ => rfl, fun h => absurd rfl h⟩
theorem StOk.write_first {hs rest b : List Int} {r : List Int × List Int} (h : StOk hs rest []) (hb : b ≠ []) (hr : comp IV (rest ++ b) = r) : StOk r.1 r.2 ([] ++ b) := by
  rw [h.2.1 rfl] at hr
  subst hr
  exact ⟨comp_len _ _ rfl, fun e => absurd e (by simpa using hb), fun _ => rfl⟩
theorem StOk.write {hs rest m b : List Int} {r : List Int × List Int} (h : StOk hs rest m) (hm : m ≠ []) (hr : comp hs (rest ++ b) = r) : StOk r.1 r.2 (m ++ b) := by
  have hc := h.2.2 hm
  have : comp IV (m ++ b) = r := by rw [comp_append, hc]; exact hr
  subst this
  exact ⟨comp_len _ _ rfl, fun e => absurd e (by simp [hm]), fun _ => rfl⟩
/-- The length in bits, as eight bytes. -/
def lenBytes (n : Nat) : List Int := [(n * 8 / 2 ^ 56 % 256 : Int), (n * 8 / 2 ^ 48 % 256 : Int), (n * 8 / 2 ^ 40 % 256 : Int), (n * 8 / 2 ^ 32 % 256 : Int), (n * 8 / 2 ^ 24 % 256 : Int), (n * 8 / 2 ^ 16 % 256 : Int), (n * 8 / 2 ^ 8 % 256 : Int), (n * 8 % 256 : Int)]
def padZeros (n : Nat) : Nat := (119 - n % 64) % 64
def pad (n : Nat) : List Int := 128 :: (List.replicate (padZeros n) 0 ++ lenBytes n)
/-- A word's four bytes. -/
def wbytes (x : Int) : List Int := [x / 16777216 % 256, x / 65536 % 256, x / 256 % 256, x % 256]
def outBytes (h : List Int) : List Int := (h.map wbytes).flatten
/-- SHA-256. -/
def sha (m : List Int) : List Int := outBytes (comp IV (m ++ pad m.length)).1
end Go.Proofs.Ytilehfdplgciiaa.Hand
