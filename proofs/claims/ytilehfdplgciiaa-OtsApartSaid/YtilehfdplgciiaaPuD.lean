import Derived.Test.YtilehfdplgciiaaPuA
/-! Made seeds, digests and damage, in plain words. -/
namespace Go.Proofs.Ytilehfdplgciiaa.Plain
open Go.RowKit Go.Proofs.Ytilehfdplgciiaa.PL11 Go.Proofs.YtilehfdplgciiaaW.PrintWords Go.Proofs.YtilehfdplgciiaaW.PrintLast
open Hand (cat sha outBytes comp IV digits nibs short tail3 all16 nib2 lack)
set_option linter.unusedVariables false

theorem u8_wf {x : Int} (h : (Lit.int .u8 x).wf = true) : 0 ≤ x ∧ x ≤ 255 := by
  simp [Lit.wf, IntKind.min, IntKind.max, IntKind.signed, IntKind.bits] at h
  omega
theorem awake_f : certpathlaw11_awake.f = some true := by
  unfold certpathlaw11_awake.f Given.ots_Digits.f Hand.ots_Digits.f
  rw [if_pos (by decide), if_pos (by rw [strOfNums_size]; rfl), Hand.bytesOf_strOfNums _ (by decide), Option.bind_some]
  decide
def seed (x : Int) : ByteArray := full [⟨#[115, 101, 101, 100]⟩, b4 x]
theorem seed_size (x : Int) : (seed x).size = 32 := full_size _
theorem seed_f (x : Int) : certpathmade_Seed.f x = some (seed x) := by
  unfold certpathmade_Seed.f
  rw [ref_b4_eq, Option.bind_some, ref_sum _ (by simp only [cat_cons, cat_nil, List.length_append, bytesOf_length, b4_size, List.length_nil]; decide)]
  rfl
def ident (x : Int) : ByteArray := sh [⟨#[73]⟩, seed (wrap64 x)]
theorem ident_size (x : Int) : (ident x).size = 16 := sh_size _
theorem ident_f (x : Int) : certpathlaw11_id.f x = some (ident x) := by
  unfold certpathlaw11_id.f
  rw [seed_f, Option.bind_some, ref_short _ (by simp only [cat_cons, cat_nil, List.length_append, bytesOf_length, seed_size, List.length_nil]; decide)]
  rfl
def dig (m : ByteArray) : ByteArray := sh [⟨#[68]⟩, m]
theorem dig_size (m : ByteArray) : (dig m).size = 16 := sh_size _
theorem dig_f (m : ByteArray) (h : m.size ≤ 1000) : certpathlaw11_digest.f m = some (dig m) := by
  unfold certpathlaw11_digest.f
  rw [ref_short _ (by simp only [cat_cons, cat_nil, List.length_append, bytesOf_length, List.length_nil]; show 1 + _ ≤ _; omega)]
  rfl
/-- A deck's next card: a number below n. -/
theorem next_f (l : List Int) (p n : Int) (hp : 0 ≤ p) (hl : l.length ≤ 9223372036854775806) (hn : 0 < n) (hn2 : n ≤ 4611686018427387903) : ∃ x q, certpathmade_Deck_Next.f l p n = some (x, q) ∧ 0 ≤ x ∧ x < n ∧ 0 ≤ q := by
  unfold certpathmade_Deck_Next.f
  by_cases h : p ≥ l.length
  · exact ⟨0, p, by rw [if_pos h], by omega, hn, hp⟩
  · have e1 : wrap64 (p + 1) = p + 1 := w64 _ (by omega) (by omega)
    have e2 : wrap64 (p + 1 - 1) = p := by rw [w64 _ (by omega) (by omega)]; omega
    rw [if_neg h, e1, e2, if_pos hp, if_pos (by omega), if_neg (by omega)]
    generalize rd l p = y
    have h1 : -n < Int.tmod y n := by
      have := Int.lt_tmod_of_pos y hn
      omega
    have h2 : Int.tmod y n < n := Int.tmod_lt_of_pos y hn
    rw [w64 (Int.tmod y n + n) (by omega) (by omega)]
    exact ⟨_, _, rfl, Int.tmod_nonneg _ (by omega), Int.tmod_lt_of_pos _ hn, by omega⟩
theorem damage_f (l : List Int) (m : ByteArray) (hl : l.length ≤ 9223372036854775806) (hm : m.size ≤ 100000) : ∃ r q, certpathmade_Damage.f l 0 m = some (r, q) := by
  unfold certpathmade_Damage.f
  by_cases h : m.toList = []
  · exact ⟨_, _, by rw [if_pos h]⟩
  · have hpos : 0 < m.size := by
      rcases Nat.eq_zero_or_pos m.size with h0 | h0
      · exact absurd (List.eq_nil_of_length_eq_zero (by rw [ByteArray.toList_eq, data_length]; exact h0)) h
      · exact h0
    rw [if_neg h]
    obtain ⟨x, q, e1, hx0, hx1, hq⟩ := next_f l 0 m.size (by omega) hl (by omega) (by omega)
    rw [e1, Option.bind_some]
    obtain ⟨y, q2, e2, hy0, hy1, hq2⟩ := next_f l q 256 hq hl (by omega) (by omega)
    rw [e2, Option.bind_some, Option.bind_some]
    obtain ⟨z, q3, e3, hz0, hz1, hq3⟩ := next_f l q2 5 hq2 hl (by omega) (by omega)
    rw [e3, Option.bind_some]
    have ew : wrap64 (x + 1) = x + 1 := w64 _ (by omega) (by omega)
    rw [ew]
    simp only [strOfNums_size, List.length_singleton, ByteArray.size_append, ByteArray.size_extract]
    by_cases c0 : z = 0
    · exact ⟨_, _, by rw [if_pos c0, if_pos hx0, if_pos (by omega), if_pos (by omega), if_pos (by omega), if_pos (by omega), if_pos (by omega)]⟩
    · rw [if_neg c0]
      by_cases c1 : z = 1
      · exact ⟨_, _, by rw [if_pos c1, if_pos hx0, if_pos (by omega), if_pos (by omega), if_pos (by omega)]⟩
      · rw [if_neg c1]
        by_cases c2 : z = 2
        · exact ⟨_, _, by rw [if_pos c2, if_pos hx0, if_pos (by omega), if_pos (by omega), if_pos (by omega), if_pos (by omega)]⟩
        · rw [if_neg c2]
          by_cases c3 : z = 3
          · exact ⟨_, _, by rw [if_pos c3, if_pos hx0, if_pos (by omega)]⟩
          · exact ⟨_, _, by rw [if_neg c3]⟩
end Go.Proofs.Ytilehfdplgciiaa.Plain
