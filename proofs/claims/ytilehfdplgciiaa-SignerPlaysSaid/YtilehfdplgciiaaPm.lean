import Derived.Test.YtilehfdplgciiaaPLMx4
import Derived.Test.YtilehfdplgciiaaPLMx3
import Derived.Test.YtilehfdplgciiaaPLMx2
import Derived.Test.YtilehfdplgciiaaPLMx1
import Derived.Test.YtilehfdplgciiaaPLMx5
/-! What the printed functions of the one-time signatures tell, in plain words: digests, walks, secrets, digits. -/
namespace Go.Proofs.Ytilehfdplgciiaa.Plain
open Go.RowKit Go.Proofs.Ytilehfdplgciiaa.PLM Go.Proofs.YtilehfdplgciiaaW.PrintWords Go.Proofs.YtilehfdplgciiaaW.PrintLast
open Hand (cat sha outBytes comp IV digits nibs short tail3 all16 nib2 lack)
set_option linter.unusedVariables false

/-! ### digests -/
theorem strOfNums_size (xs : List Int) : (strOfNums xs).size = xs.length := by
  unfold strOfNums
  show (List.map _ xs).toArray.size = _
  simp
theorem bytesOf_range (s : ByteArray) : ∀ x ∈ bytesOf s, 0 ≤ x ∧ x < 256 := by
  intro x hx
  unfold bytesOf at hx
  obtain ⟨b, _, rfl⟩ := List.mem_map.1 hx
  have := b.toNat_lt
  omega
theorem cat_range (l : List ByteArray) : ∀ x ∈ cat l, 0 ≤ x ∧ x < 256 := by
  intro x hx
  unfold cat at hx
  obtain ⟨y, hy, hx⟩ := List.mem_flatten.1 hx
  obtain ⟨s, _, rfl⟩ := List.mem_map.1 hy
  exact bytesOf_range s x hx
theorem strOfNums_bytesOf (s : ByteArray) : strOfNums (bytesOf s) = s := by
  unfold strOfNums bytesOf
  rw [List.map_map]
  have : (List.map ((fun n : Int => UInt8.ofNat n.toNat) ∘ fun b : UInt8 => (b.toNat : Int)) s.data.toList) = s.data.toList := by
    refine (List.map_congr_left fun x _ => ?_).trans (List.map_id _)
    simp
  rw [this]
theorem bytesOf_inj {s t : ByteArray} (h : bytesOf s = bytesOf t) : s = t := by rw [← strOfNums_bytesOf s, ← strOfNums_bytesOf t, h]
theorem cat_nil : cat [] = [] := rfl
theorem cat_cons (s : ByteArray) (l : List ByteArray) : cat (s :: l) = bytesOf s ++ cat l := by simp [cat]
theorem cat_append (a b : List ByteArray) : cat (a ++ b) = cat a ++ cat b := by simp [cat]
theorem bytesOf_cat (l : List ByteArray) : bytesOf (strOfNums (cat l)) = cat l := Hand.bytesOf_strOfNums _ (cat_range l)
theorem sha_len (m : List Int) : (sha m).length = 32 := by
  unfold sha
  rw [Hand.outBytes_len, Hand.comp_len _ _ rfl]
/-- A digest, cut to sixteen bytes. -/
def sh (l : List ByteArray) : ByteArray := (strOfNums (sha (cat l))).extract 0 16
theorem sh_size (l : List ByteArray) : (sh l).size = 16 := by
  unfold sh
  rw [ByteArray.size_extract, strOfNums_size, sha_len]
  rfl
theorem sh_congr {l l' : List ByteArray} (h : cat l = cat l') : sh l = sh l' := by unfold sh; rw [h]
/-- A whole digest. -/
def full (l : List ByteArray) : ByteArray := strOfNums (sha (cat l))
theorem full_size (l : List ByteArray) : (full l).size = 32 := by unfold full; rw [strOfNums_size, sha_len]
theorem ref_sum (l : List ByteArray) (h : (cat l).length ≤ 1099511627776) : Given.certpathref01_Sum.f l = some (full l) := by
  unfold Given.certpathref01_Sum.f Hand.hash_Sum.f
  rw [if_pos h]
  rfl
theorem ots_short (l : List ByteArray) (h : (cat l).length ≤ 1099511627776) : hash_Short.f l = some (sh l) := by
  unfold hash_Short.f Given.hash_Sum.f Hand.hash_Sum.f
  rw [if_pos h, Option.bind_some, if_pos (by decide), if_pos (by rw [strOfNums_size, sha_len]; decide)]
  rfl
theorem ref_short (l : List ByteArray) (h : (cat l).length ≤ 1099511627776) : certpathref01_Short.f l = some (sh l) := by
  unfold certpathref01_Short.f
  rw [ref_sum l h, Option.bind_some, if_pos (by decide), if_pos (by rw [full_size]; decide)]
  rfl
/-! ### small words -/
def b4 (x : Int) : ByteArray := strOfNums [x / 16777216 % 256, x / 65536 % 256, x / 256 % 256, x % 256]
def b1 (x : Int) : ByteArray := strOfNums [x % 256]
theorem b4_size (x : Int) : (b4 x).size = 4 := by unfold b4; rw [strOfNums_size]; rfl
theorem b1_size (x : Int) : (b1 x).size = 1 := by unfold b1; rw [strOfNums_size]; rfl
theorem ots_b4_eq (x : Int) : ots_b4.f x = some (b4 x) := rfl
theorem ots_b1_eq (x : Int) : ots_b1.f x = some (b1 x) := rfl
theorem ref_b4_eq (x : Int) : certpathref11_B4.f x = some (b4 x) := rfl
theorem ref_b1_eq (x : Int) : certpathref11_B1.f x = some (b1 x) := rfl
/-! ### a chain's step and walk -/
def step (a : ByteArray) (l c i : Int) (v : ByteArray) : ByteArray := sh [⟨#[67]⟩, a, b4 l, b1 c, b1 i, v]
def wk (a : ByteArray) (l c : Int) : Nat → Int → ByteArray → ByteArray
  | 0, _, v => v
  | n + 1, i, v => wk a l c n (i + 1) (step a l c i v)
theorem step_size (a : ByteArray) (l c i : Int) (v : ByteArray) : (step a l c i v).size = 16 := sh_size _
theorem wk_size (a : ByteArray) (l c : Int) : ∀ (n : Nat) (i : Int) (v : ByteArray), v.size = 16 → (wk a l c n i v).size = 16
  | 0, _, v, h => h
  | n + 1, i, v, _ => wk_size a l c n (i + 1) _ (step_size a l c i v)
theorem wk_add (a : ByteArray) (l c : Int) : ∀ (n m : Nat) (i : Int) (v : ByteArray), wk a l c (n + m) i v = wk a l c m (i + n) (wk a l c n i v)
  | 0, m, i, v => by simp [wk]
  | n + 1, m, i, v => by
    rw [Nat.add_right_comm]
    show wk a l c (n + m) (i + 1) _ = _
    rw [wk_add a l c n m (i + 1)]
    show wk a l c m (i + 1 + n) _ = wk a l c m (i + (n + 1 : Nat)) _
    congr 1
    omega
theorem w64 (x : Int) (h0 : -9223372036854775808 ≤ x) (h1 : x ≤ 9223372036854775807) : wrap64 x = x := by
  unfold wrap64
  omega
theorem chain_len (a : ByteArray) (l c i : Int) (v : ByteArray) : (cat [⟨#[67]⟩, a, b4 l, b1 c, b1 i, v]).length = 7 + a.size + v.size := by
  simp only [cat_cons, cat_nil, List.length_append, bytesOf_length, b4_size, b1_size, List.length_nil]
  show 1 + _ = _
  omega
theorem ots_walk_eq (a : ByteArray) (l c e : Int) (ha : a.size ≤ 1000) (ht : e ≤ 15) : ∀ (n k : Nat) (i : Int) (v : ByteArray), n + 1 ≤ k → 0 ≤ i → i + n = e → v.size ≤ 1000 → ots_walk.l0 k a l c e v i = some (wk a l c n i v)
  | 0, k + 1, i, v, hk, hi, he, hv => by
    rw [ots_walk.l0]
    rw [if_neg (by omega)]
    rfl
  | n + 1, k + 1, i, v, hk, hi, he, hv => by
    rw [ots_walk.l0]
    rw [if_pos (by omega), ots_b4_eq, Option.bind_some, ots_b1_eq, Option.bind_some, ots_b1_eq, Option.bind_some, ots_short _ (by rw [chain_len]; omega), Option.bind_some, w64 _ (by omega) (by omega)]
    exact ots_walk_eq a l c e ha ht n k (i + 1) _ (by omega) (by omega) (by omega) (by rw [sh_size]; omega)
theorem ref_walk_eq (a : ByteArray) (l c e : Int) (ha : a.size ≤ 1000) (ht : e ≤ 15) : ∀ (n k : Nat) (i : Int) (v : ByteArray), n + 1 ≤ k → 0 ≤ i → i + n = e → v.size ≤ 1000 → certpathref11_walk.l0 k a l c e v i = some (wk a l c n i v)
  | 0, k + 1, i, v, hk, hi, he, hv => by
    rw [certpathref11_walk.l0]
    rw [if_neg (by omega)]
    rfl
  | n + 1, k + 1, i, v, hk, hi, he, hv => by
    rw [certpathref11_walk.l0]
    rw [if_pos (by omega), ref_b4_eq, Option.bind_some, ref_b1_eq, Option.bind_some, ref_b1_eq, Option.bind_some, ref_short _ (by rw [chain_len]; omega), Option.bind_some, w64 _ (by omega) (by omega)]
    exact ref_walk_eq a l c e ha ht n k (i + 1) _ (by omega) (by omega) (by omega) (by rw [sh_size]; omega)
theorem ots_walk_f (a : ByteArray) (l c fr e : Int) (v : ByteArray) (k : Nat) (hk : 16 ≤ k) (ha : a.size ≤ 1000) (h0 : 0 ≤ fr) (h1 : fr ≤ e) (h2 : e ≤ 15) (hv : v.size ≤ 1000) : ots_walk.f k a l c fr e v = some (wk a l c (e - fr).toNat fr v) :=
  ots_walk_eq a l c e ha h2 (e - fr).toNat k fr v (by omega) h0 (by omega) hv
theorem ref_walk_f (a : ByteArray) (l c fr e : Int) (v : ByteArray) (k : Nat) (hk : 16 ≤ k) (ha : a.size ≤ 1000) (h0 : 0 ≤ fr) (h1 : fr ≤ e) (h2 : e ≤ 15) (hv : v.size ≤ 1000) : certpathref11_walk.f k a l c fr e v = some (wk a l c (e - fr).toNat fr v) :=
  ref_walk_eq a l c e ha h2 (e - fr).toNat k fr v (by omega) h0 (by omega) hv
/-! ### secrets -/
def secret (s : ByteArray) (l c : Int) : ByteArray := sh [⟨#[83]⟩, s, b4 l, b1 c]
theorem secret_size (s : ByteArray) (l c : Int) : (secret s l c).size = 16 := sh_size _
theorem secret_len (s : ByteArray) (l c : Int) : (cat [⟨#[83]⟩, s, b4 l, b1 c]).length = 6 + s.size := by
  simp only [cat_cons, cat_nil, List.length_append, bytesOf_length, b4_size, b1_size, List.length_nil]
  show 1 + _ = _
  omega
theorem ots_secret_f (s : ByteArray) (l c : Int) (h : s.size ≤ 1000) : ots_secret.f s l c = some (secret s l c) := by
  unfold ots_secret.f
  rw [ots_b4_eq, Option.bind_some, ots_b1_eq, Option.bind_some, ots_short _ (by rw [secret_len]; omega)]
  rfl
theorem ref_secret_f (s : ByteArray) (l c : Int) (h : s.size ≤ 1000) : certpathref11_secret.f s l c = some (secret s l c) := by
  unfold certpathref11_secret.f
  rw [ref_b4_eq, Option.bind_some, ref_b1_eq, Option.bind_some, ref_short _ (by rw [secret_len]; omega)]
  rfl
/-! ### what is checked first -/
def chk (a s : ByteArray) (l : Int) : Int := if a.size = 16 ∧ s.size = 32 then (if l < 0 ∨ l ≥ 256 then 1 else 0) else 18
def chkA (a : ByteArray) (l : Int) : Int := if a.size = 16 then (if l < 0 ∨ l ≥ 256 then 1 else 0) else 18
theorem ots_leaf_f (a : ByteArray) (l : Int) : ots_checkLeaf.f a l = some (chkA a l) := by
  unfold ots_checkLeaf.f chkA
  by_cases h1 : a.size = 16
  · have h1' : (a.size : Int) = 16 := by omega
    rw [if_pos h1, if_pos h1']
    by_cases h2 : l < 0
    · rw [if_pos h2, if_pos (Or.inl h2)]
    · rw [if_neg h2]
      by_cases h3 : l ≥ 256
      · rw [if_pos h3, if_pos (Or.inr h3)]
      · rw [if_neg h3, if_neg (by omega)]
  · rw [if_neg h1, if_neg (by omega)]
theorem ots_seed_f (a s : ByteArray) (l : Int) : ots_checkSeed.f a s l = some (chk a s l) := by
  unfold ots_checkSeed.f chk
  by_cases h1 : a.size = 16
  · rw [if_pos (show (a.size : Int) = 16 by omega)]
    by_cases h2 : s.size = 32
    · rw [if_pos (show (s.size : Int) = 32 by omega), ots_leaf_f, if_pos ⟨h1, h2⟩, Option.bind_some]
      unfold chkA
      rw [if_pos h1]
    · rw [if_neg (show ¬ (s.size : Int) = 32 by omega), if_neg (fun h => h2 h.2)]
  · rw [if_neg (show ¬ (a.size : Int) = 16 by omega), if_neg (fun h => h1 h.1)]
theorem ref_check_f (a s : ByteArray) (l : Int) (k : Nat) (hk : 1 ≤ k) : certpathref11_check.f k a s l = some (chk a s l) := by
  obtain ⟨k, rfl⟩ : ∃ k', k = k' + 1 := ⟨k - 1, by omega⟩
  unfold certpathref11_check.f chk
  by_cases h1 : a.size = 16
  · rw [if_pos (show (a.size : Int) = 16 by omega)]
    by_cases h2 : s.size = 32
    · have e : ((s.size : Int) != 32) = false := by simp; omega
      rw [e, certpathref11_check.j0, if_neg (show ¬ (false = true) by decide), if_pos (show a.size = 16 ∧ s.size = 32 from ⟨h1, h2⟩)]
      by_cases h3 : l < 0
      · rw [if_pos h3, if_pos (Or.inl h3)]
      · rw [if_neg h3]
        by_cases h4 : l ≥ 256
        · rw [if_pos h4, if_pos (Or.inr h4)]
        · rw [if_neg h4, if_neg (by omega)]
    · have e : ((s.size : Int) != 32) = true := by simp; omega
      rw [e, certpathref11_check.j0, if_pos rfl, if_neg (fun h => h2 h.2)]
  · rw [if_neg (show ¬ (a.size : Int) = 16 by omega), if_neg (fun h => h1 h.1), certpathref11_check.j0, if_pos rfl]
end Go.Proofs.Ytilehfdplgciiaa.Plain
/-! Digits, signatures and what they recover, in plain words. -/
namespace Go.Proofs.Ytilehfdplgciiaa.Plain
open Go.RowKit Go.Proofs.Ytilehfdplgciiaa.PLM Go.Proofs.YtilehfdplgciiaaW.PrintWords Go.Proofs.YtilehfdplgciiaaW.PrintLast
open Hand (cat sha outBytes comp IV digits nibs short tail3 all16 nib2 lack)
set_option linter.unusedVariables false

/-! ### digits -/
theorem rd_mem (xs : List Int) (j : Nat) (h : j < xs.length) : rd xs (j : Int) ∈ xs := by
  simp [rd, h]
theorem short_bounds (b : List Int) (h : ∀ x ∈ b, 0 ≤ x ∧ x < 256) : 0 ≤ short b ∧ short b ≤ 30 * b.length := by
  unfold short
  induction b with
  | nil => simp
  | cons x t ih =>
    have h1 := ih (fun y hy => h y (List.mem_cons_of_mem _ hy))
    have h2 := h x List.mem_cons_self
    rw [List.map_cons, List.sum_cons, List.length_cons, show lack x = 15 - x / 16 + 15 - x % 16 from rfl]
    generalize (t.map lack).sum = z at *
    omega
theorem nibs_range (b : List Int) (h : ∀ x ∈ b, 0 ≤ x ∧ x < 256) : ∀ x ∈ nibs b, 0 ≤ x ∧ x ≤ 15 := by
  intro y hy
  unfold nibs at hy
  obtain ⟨z, hz, hy⟩ := List.mem_flatten.1 hy
  obtain ⟨x, hx, rfl⟩ := List.mem_map.1 hz
  have := h x hx
  simp only [nib2, List.mem_cons, List.not_mem_nil, or_false] at hy
  rcases hy with rfl | rfl <;> omega
theorem digits_len (b : List Int) (h : b.length = 16) : (digits b).length = 35 := by
  unfold digits
  rw [List.length_append, Hand.nibs_len, h]
  rfl
theorem digits_range (d : ByteArray) (h : d.size = 16) : ∀ j : Nat, j < 35 → 0 ≤ rd (digits (bytesOf d)) (j : Int) ∧ rd (digits (bytesOf d)) (j : Int) ≤ 15 := by
  intro j hj
  have hl := digits_len (bytesOf d) (by rw [bytesOf_length, h])
  have hm := rd_mem (digits (bytesOf d)) j (by omega)
  generalize rd (digits (bytesOf d)) (j : Int) = x at hm ⊢
  unfold digits at hm
  rcases List.mem_append.1 hm with hm | hm
  · exact nibs_range _ (bytesOf_range d) x hm
  · have hs := short_bounds (bytesOf d) (bytesOf_range d)
    rw [bytesOf_length, h] at hs
    simp only [tail3, List.mem_cons, List.not_mem_nil, or_false] at hm
    rcases hm with rfl | rfl | rfl <;> omega
theorem ots_digits_f (d : ByteArray) : Given.ots_Digits.f d = some (if d.size = 16 then (digits (bytesOf d), 0) else ([], 7)) := by
  unfold Given.ots_Digits.f Hand.ots_Digits.f
  split <;> rfl
theorem ref_digits_l (d : ByteArray) (hd : d.size = 16) : ∀ (n k j : Nat), n + j = 16 → n + 1 ≤ k → certpathref11_Digits.l0 k d (nibs ((bytesOf d).take j)) (short ((bytesOf d).take j)) (j : Int) = some (digits (bytesOf d), 0)
  | 0, k + 1, j, hj, hk => by
    have hbl : (bytesOf d).length = 16 := by rw [bytesOf_length, hd]
    rw [certpathref11_Digits.l0, if_neg (by omega), List.take_of_length_le (by omega)]
    have hs := short_bounds (bytesOf d) (bytesOf_range d)
    rw [hbl] at hs
    have hd : digits (bytesOf d) = nibs (bytesOf d) ++ tail3 (short (bytesOf d)) := rfl
    have hn := Hand.nibs_len (bytesOf d)
    rw [hd]
    generalize short (bytesOf d) = s at *
    have e1 : wrap64 (Int.tdiv s 256) = s / 256 := by rw [Int.tdiv_eq_ediv_of_nonneg (by omega)]; exact w64 _ (by omega) (by omega)
    have e2 : Int.tmod (wrap64 (Int.tdiv s 16)) 16 = s / 16 % 16 := by rw [Int.tdiv_eq_ediv_of_nonneg (by omega), w64 _ (by omega) (by omega), Int.tmod_eq_emod_of_nonneg (by omega)]
    have e3 : Int.tmod s 16 = s % 16 := Int.tmod_eq_emod_of_nonneg (by omega)
    rw [e1, e2, e3, Option.bind_some, if_pos (by rw [hn, hbl]; simp)]
    rfl
  | n + 1, k + 1, j, hj, hk => by
    have hbl : (bytesOf d).length = 16 := by rw [bytesOf_length, hd]
    have hx := bytesOf_range d _ (rd_mem (bytesOf d) j (by omega))
    have hnt := Hand.nibs_step (bytesOf d) j (by omega)
    have hst := Hand.short_step (bytesOf d) j (by omega)
    have hnl : (nibs ((bytesOf d).take j)).length ≤ 32 := by rw [Hand.nibs_len, List.length_take]; omega
    have hs := short_bounds ((bytesOf d).take j) (fun x hx => bytesOf_range d x (List.mem_of_mem_take hx))
    rw [List.length_take] at hs
    rw [certpathref11_Digits.l0, if_pos (by omega), if_pos (by omega), ← rd_bytesOf]
    have ih := ref_digits_l d hd n k (j + 1) (by omega) (by omega)
    rw [← hnt, ← hst] at ih
    generalize rd (bytesOf d) (j : Int) = x at *
    generalize nibs ((bytesOf d).take j) = xs at *
    generalize short ((bytesOf d).take j) = s at *
    unfold lack at ih
    have e1 : (Int.tdiv x 16) % 256 = x / 16 := by rw [Int.tdiv_eq_ediv_of_nonneg (by omega)]; omega
    have e2 : wrap64 (Int.tmod x 16) = x % 16 := by rw [Int.tmod_eq_emod_of_nonneg (by omega)]; exact w64 _ (by omega) (by omega)
    rw [e1, e2, Option.bind_some, if_pos (by simp; omega), w64 (30 - x / 16 - x % 16) (by omega) (by omega), w64 _ (by omega) (by omega), w64 _ (by omega) (by omega)]
    rw [show s + (30 - x / 16 - x % 16) = s + (15 - x / 16 + 15 - x % 16) by omega]
    exact ih
theorem ref_digits_f (d : ByteArray) (k : Nat) (hk : 17 ≤ k) : certpathref11_Digits.f k d = some (if d.size = 16 then (digits (bytesOf d), 0) else ([], 7)) := by
  unfold certpathref11_Digits.f
  by_cases h : d.size = 16
  · rw [if_pos (show (d.size : Int) = 16 by omega), if_pos h]
    exact ref_digits_l d h 16 k 0 (by omega) (by omega)
  · rw [if_neg (show ¬ (d.size : Int) = 16 by omega), if_neg h]
/-! ### collected pieces -/
def col (g : Nat → ByteArray) (n : Nat) : List ByteArray := (List.range n).map g
def joined (g : Nat → ByteArray) (n : Nat) : ByteArray := strOfNums (cat (col g n))
theorem col_succ (g : Nat → ByteArray) (n : Nat) : col g (n + 1) = col g n ++ [g n] := by unfold col; rw [List.range_succ, List.map_append]; rfl
theorem col_len (g : Nat → ByteArray) (n : Nat) : (col g n).length = n := by simp [col]
theorem joined_zero (g : Nat → ByteArray) : joined g 0 = ⟨#[]⟩ := rfl
theorem joined_succ (g : Nat → ByteArray) (n : Nat) : joined g (n + 1) = joined g n ++ g n := by
  apply bytesOf_inj
  unfold joined
  rw [Hand.bytesOf_append, bytesOf_cat, bytesOf_cat, col_succ, cat_append, cat_cons, cat_nil, List.append_nil]
theorem all16_append : ∀ (a b : List ByteArray), all16 (a ++ b) = (all16 a && all16 b)
  | [], b => by simp [all16]
  | s :: t, b => by simp [all16, all16_append t b, Bool.and_assoc]
theorem all16_col (g : Nat → ByteArray) (hg : ∀ j, (g j).size = 16) : ∀ n, all16 (col g n) = true
  | 0 => rfl
  | n + 1 => by rw [col_succ, all16_append, all16_col g hg n]; simp [all16, hg n]
theorem joined_size (g : Nat → ByteArray) (hg : ∀ j, (g j).size = 16) : ∀ n, (joined g n).size = 16 * n
  | 0 => rfl
  | n + 1 => by rw [joined_succ, ByteArray.size_append, joined_size g hg n, hg n]; omega
theorem joined_piece (g : Nat → ByteArray) (hg : ∀ j, (g j).size = 16) (j : Nat) : ∀ n, j < n → (joined g n).extract (j * 16) ((j + 1) * 16) = g j := by
  intro n
  induction n with
  | zero => intro h; omega
  | succ n ih =>
    intro hj
    apply bytesOf_inj
    rw [Hand.bytesOf_extract, joined_succ, Hand.bytesOf_append]
    by_cases h : j < n
    · rw [List.drop_append_of_le_length (by rw [bytesOf_length, joined_size g hg]; omega), List.take_append_of_le_length (by rw [List.length_drop, bytesOf_length, joined_size g hg]; omega), ← Hand.bytesOf_extract, ih h]
    · obtain rfl : j = n := by omega
      have hl : j * 16 = (bytesOf (joined g j)).length := by rw [bytesOf_length, joined_size g hg]; omega
      rw [hl, List.drop_left, List.take_of_length_le (by rw [bytesOf_length, hg]; omega)]
/-! ### a public key out of the chains' ends -/
def pub (a : ByteArray) (l : Int) (j : ByteArray) : ByteArray := sh [⟨#[76]⟩, a, b4 l, j]
theorem pub_len (a : ByteArray) (l : Int) (j : ByteArray) : (cat [⟨#[76]⟩, a, b4 l, j]).length = 5 + a.size + j.size := by
  simp only [cat_cons, cat_nil, List.length_append, bytesOf_length, b4_size, List.length_nil]
  show 1 + _ = _
  omega
theorem ots_join_f (g : Nat → ByteArray) (hg : ∀ j, (g j).size = 16) (n : Nat) (hn : n ≤ 1048576) : Given.ots_join.f (col g n) = some (joined g n) := by
  unfold Given.ots_join.f Hand.ots_join.f
  rw [if_pos ⟨all16_col g hg n, by rw [col_len]; exact hn⟩]
  rfl
theorem ots_public_f (a : ByteArray) (l : Int) (g : Nat → ByteArray) (hg : ∀ j, (g j).size = 16) (n : Nat) (hn : n ≤ 1048576) (ha : a.size ≤ 1000) : ots_public.f a l (col g n) = some (pub a l (joined g n)) := by
  unfold ots_public.f
  rw [ots_b4_eq, Option.bind_some, ots_join_f g hg n hn, Option.bind_some, ots_short _ (by rw [pub_len, joined_size g hg]; omega)]
  rfl
/-! ### signing -/
def sigG (a s : ByteArray) (l : Int) (D : List Int) (j : Nat) : ByteArray := wk a l j (rd D j).toNat 0 (secret s l j)
theorem sigG_size (a s : ByteArray) (l : Int) (D : List Int) (j : Nat) : (sigG a s l D j).size = 16 := wk_size _ _ _ _ _ _ (secret_size _ _ _)
theorem ref_sign_l (a s : ByteArray) (l : Int) (D : List Int) (hD : D.length = 35) (hr : ∀ j : Nat, j < 35 → 0 ≤ rd D j ∧ rd D j ≤ 15) (ha : a.size ≤ 1000) (hs : s.size ≤ 1000) :
    ∀ (n k j : Nat), n + j = 35 → n + 17 ≤ k → certpathref11_SignOnce.l0 k a s l D (joined (sigG a s l D) j) 35 (j : Int) = some (joined (sigG a s l D) 35, 0)
  | 0, k + 1, j, hj, hk => by
    rw [certpathref11_SignOnce.l0, if_neg (by omega), show j = 35 by omega]
  | n + 1, k + 1, j, hj, hk => by
    have hx := hr j (by omega)
    rw [certpathref11_SignOnce.l0, if_pos (by omega), if_pos (by omega), if_pos (by omega), ref_secret_f s l j hs, Option.bind_some, ref_walk_f a l j 0 (rd D j) _ k (by omega) ha (by omega) hx.1 hx.2 (by rw [secret_size]; omega), Option.bind_some]
    rw [show (rd D (j : Int) - 0).toNat = (rd D (j : Int)).toNat by rw [Int.sub_zero]]
    change (if (joined (sigG a s l D) j).size + (sigG a s l D j).size ≤ 9223372036854775807 then certpathref11_SignOnce.l0 k a s l D (joined (sigG a s l D) j ++ sigG a s l D j) 35 (wrap64 (j + 1)) else none) = _
    rw [if_pos (by rw [joined_size _ (sigG_size a s l D), sigG_size]; omega), ← joined_succ, w64 _ (by omega) (by omega)]
    exact ref_sign_l a s l D hD hr ha hs n k (j + 1) (by omega) (by omega)
/-- What signing answers. -/
def signR (a s : ByteArray) (l : Int) (d : ByteArray) : ByteArray × Int :=
  if chk a s l = 0 then (if d.size = 16 then (joined (sigG a s l (digits (bytesOf d))) 35, 0) else (⟨#[]⟩, 7)) else (⟨#[]⟩, chk a s l)
theorem chk_size {a s : ByteArray} {l : Int} (h : chk a s l = 0) : a.size = 16 ∧ s.size = 32 := by
  unfold chk at h
  by_cases h1 : a.size = 16 ∧ s.size = 32
  · exact h1
  · rw [if_neg h1] at h
    omega
theorem ref_sign_f (a s : ByteArray) (l : Int) (d : ByteArray) (k : Nat) (hk : 60 ≤ k) : certpathref11_SignOnce.f k a s l d = some (signR a s l d) := by
  unfold certpathref11_SignOnce.f signR
  rw [ref_check_f a s l k (by omega), Option.bind_some]
  by_cases hc : chk a s l = 0
  · rw [if_pos hc, if_pos hc, ref_digits_f d k (by omega), Option.bind_some]
    by_cases hd : d.size = 16
    · rw [if_pos hd, if_pos rfl]
      have hl := digits_len (bytesOf d) (by rw [bytesOf_length, hd])
      have hz := chk_size hc
      have := ref_sign_l a s l (digits (bytesOf d)) hl (digits_range d hd) (by omega) (by omega) 35 k 0 (by omega) (by omega)
      rw [if_pos hd]
      show certpathref11_SignOnce.l0 k a s l (digits (bytesOf d)) ⟨#[]⟩ ((digits (bytesOf d)).length : Int) 0 = _
      rw [hl]
      exact this
    · rw [if_neg hd, if_neg (by decide), if_neg hd]
  · rw [if_neg hc, if_neg hc]
/-! ### recovering -/
def recG (a : ByteArray) (l : Int) (D : List Int) (sg : ByteArray) (j : Nat) : ByteArray := if j < 35 then wk a l j (15 - rd D j).toNat (rd D j) (sg.extract (j * 16) ((j + 1) * 16)) else sh []
theorem recG_size (a : ByteArray) (l : Int) (D : List Int) (sg : ByteArray) (hs : sg.size = 560) (j : Nat) : (recG a l D sg j).size = 16 := by
  unfold recG
  by_cases hj : j < 35
  · rw [if_pos hj]
    exact wk_size _ _ _ _ _ _ (by rw [ByteArray.size_extract]; omega)
  · rw [if_neg hj, sh_size]
theorem ref_rec_l (a : ByteArray) (l : Int) (D : List Int) (sg : ByteArray) (hs : sg.size = 560) (hD : D.length = 35) (hr : ∀ j : Nat, j < 35 → 0 ≤ rd D j ∧ rd D j ≤ 15) (ha : a.size ≤ 1000) :
    ∀ (n k j : Nat), n + j = 35 → n + 17 ≤ k → certpathref11_Recover.l0 k a l sg D (joined (recG a l D sg) j) 35 (j : Int) = some (pub a l (joined (recG a l D sg) 35), 0)
  | 0, k + 1, j, hj, hk => by
    rw [certpathref11_Recover.l0, if_neg (by omega), show j = 35 by omega, ref_b4_eq, Option.bind_some, ref_short _ (by rw [pub_len, joined_size _ (recG_size a l D sg hs)]; omega)]
    rfl
  | n + 1, k + 1, j, hj, hk => by
    have hx := hr j (by omega)
    have e1 : wrap64 ((j : Int) * 16) = ((j * 16 : Nat) : Int) := by rw [w64 _ (by omega) (by omega)]; omega
    have e2 : wrap64 (wrap64 ((j : Int) + 1) * 16) = (((j + 1) * 16 : Nat) : Int) := by rw [w64 ((j : Int) + 1) (by omega) (by omega), w64 _ (by omega) (by omega)]; omega
    have eg : wk a l j (15 - rd D j).toNat (rd D j) (sg.extract (j * 16) ((j + 1) * 16)) = recG a l D sg j := by unfold recG; rw [if_pos (by omega)]
    rw [certpathref11_Recover.l0, if_pos (by omega), if_pos (by omega), if_pos (by omega), e1, e2, if_pos (by omega), if_pos (by omega), if_pos (by omega), Int.toNat_natCast, Int.toNat_natCast,
      ref_walk_f a l j (rd D j) 15 _ k (by omega) ha hx.1 hx.2 (by omega) (by rw [ByteArray.size_extract]; omega), Option.bind_some, eg,
      if_pos (by rw [joined_size _ (recG_size a l D sg hs), recG_size a l D sg hs]; omega), ← joined_succ, w64 _ (by omega) (by omega)]
    exact ref_rec_l a l D sg hs hD hr ha n k (j + 1) (by omega) (by omega)
theorem ots_rec_l (a : ByteArray) (l : Int) (D : List Int) (sg : ByteArray) (hs : sg.size = 560) (hD : D.length = 35) (hr : ∀ j : Nat, j < 35 → 0 ≤ rd D j ∧ rd D j ≤ 15) (ha : a.size ≤ 1000) :
    ∀ (n k j : Nat), n + j = 35 → n + 17 ≤ k → ots_Recover.l0 k a l sg D (col (recG a l D sg) j) (j : Int) = some (pub a l (joined (recG a l D sg) 35), 0)
  | 0, k + 1, j, hj, hk => by
    rw [ots_Recover.l0, if_neg (by omega), show j = 35 by omega, ots_public_f a l _ (recG_size a l D sg hs) 35 (by decide) ha]
    rfl
  | n + 1, k + 1, j, hj, hk => by
    have hx := hr j (by omega)
    have e1 : wrap64 ((j : Int) * 16) = ((j * 16 : Nat) : Int) := by rw [w64 _ (by omega) (by omega)]; omega
    have e2 : wrap64 (wrap64 ((j : Int) + 1) * 16) = (((j + 1) * 16 : Nat) : Int) := by rw [w64 ((j : Int) + 1) (by omega) (by omega), w64 _ (by omega) (by omega)]; omega
    have eg : wk a l j (15 - rd D j).toNat (rd D j) (sg.extract (j * 16) ((j + 1) * 16)) = recG a l D sg j := by unfold recG; rw [if_pos (by omega)]
    rw [ots_Recover.l0, if_pos (by omega), if_pos (by omega), if_pos (by omega), e1, e2, if_pos (by omega), if_pos (by omega), if_pos (by omega), Int.toNat_natCast, Int.toNat_natCast,
      ots_walk_f a l j (rd D j) 15 _ k (by omega) ha hx.1 hx.2 (by omega) (by rw [ByteArray.size_extract]; omega), Option.bind_some, eg,
      if_pos (by rw [col_len]; omega), ← col_succ, w64 _ (by omega) (by omega)]
    exact ots_rec_l a l D sg hs hD hr ha n k (j + 1) (by omega) (by omega)
/-- What recovering answers. -/
def recR (a : ByteArray) (l : Int) (d sg : ByteArray) : ByteArray × Int :=
  if chkA a l = 0 then (if d.size = 16 then (if sg.size = 560 then (pub a l (joined (recG a l (digits (bytesOf d)) sg) 35), 0) else (⟨#[]⟩, 17)) else (⟨#[]⟩, 7)) else (⟨#[]⟩, chkA a l)
theorem chkA_size {a : ByteArray} {l : Int} (h : chkA a l = 0) : a.size = 16 := by
  unfold chkA at h
  by_cases h1 : a.size = 16
  · exact h1
  · rw [if_neg h1] at h
    omega
theorem ots_rec_f (a : ByteArray) (l : Int) (d sg : ByteArray) (k : Nat) (hk : 60 ≤ k) : ots_Recover.f k a l d sg = some (recR a l d sg) := by
  unfold ots_Recover.f recR
  rw [ots_leaf_f, Option.bind_some]
  by_cases hc : chkA a l = 0
  · rw [if_pos hc, if_pos hc, ots_digits_f, Option.bind_some]
    by_cases hd : d.size = 16
    · rw [if_pos hd, if_pos rfl, if_pos hd]
      by_cases hs : sg.size = 560
      · rw [if_pos (show (sg.size : Int) = 560 by omega), if_pos hs]
        have hz := chkA_size hc
        exact ots_rec_l a l (digits (bytesOf d)) sg hs (digits_len _ (by rw [bytesOf_length, hd])) (digits_range d hd) (by omega) 35 k 0 (by omega) (by omega)
      · rw [if_neg (show ¬ (sg.size : Int) = 560 by omega), if_neg hs]
    · rw [if_neg hd, if_neg (by decide), if_neg hd]
  · rw [if_neg hc, if_neg hc]
theorem ref_rec_tail (a : ByteArray) (l : Int) (d sg : ByteArray) (k : Nat) (hk : 60 ≤ k) (ha : a.size = 16) : ((certpathref11_Digits.f k d).bind fun bt211 => (if bt211.2 = 0 then (if (sg.size : Int) = 560 then (certpathref11_Recover.l0 k a l sg bt211.1 (⟨#[]⟩ : ByteArray) (bt211.1.length : Int) 0) else (some ((⟨#[]⟩ : ByteArray), 17))) else (some ((⟨#[]⟩ : ByteArray), bt211.2)))) =
    some (if d.size = 16 then (if sg.size = 560 then (pub a l (joined (recG a l (digits (bytesOf d)) sg) 35), 0) else (⟨#[]⟩, 17)) else (⟨#[]⟩, 7)) := by
  rw [ref_digits_f d k (by omega), Option.bind_some]
  by_cases hd : d.size = 16
  · rw [if_pos hd, if_pos rfl, if_pos hd]
    by_cases hs : sg.size = 560
    · rw [if_pos (show (sg.size : Int) = 560 by omega), if_pos hs]
      have hl := digits_len (bytesOf d) (by rw [bytesOf_length, hd])
      show certpathref11_Recover.l0 k a l sg (digits (bytesOf d)) ⟨#[]⟩ ((digits (bytesOf d)).length : Int) 0 = _
      rw [hl]
      exact ref_rec_l a l (digits (bytesOf d)) sg hs hl (digits_range d hd) (by omega) 35 k 0 (by omega) (by omega)
    · rw [if_neg (show ¬ (sg.size : Int) = 560 by omega), if_neg hs]
  · rw [if_neg hd, if_neg (by decide), if_neg hd]
theorem ref_rec_f (a : ByteArray) (l : Int) (d sg : ByteArray) (k : Nat) (hk : 61 ≤ k) : certpathref11_Recover.f k a l d sg = some (recR a l d sg) := by
  obtain ⟨k, rfl⟩ : ∃ k', k = k' + 1 := ⟨k - 1, by omega⟩
  unfold certpathref11_Recover.f recR chkA
  by_cases h1 : a.size = 16
  · rw [if_pos (show (a.size : Int) = 16 by omega), if_pos h1]
    by_cases h2 : l < 0
    · rw [if_pos h2, if_pos (Or.inl h2), certpathref11_Recover.j0, if_pos rfl, if_neg (by decide)]
    · rw [if_neg h2]
      by_cases h3 : l ≥ 256
      · rw [if_pos (Or.inr h3), if_neg (by decide), certpathref11_Recover.j0, if_pos (by simpa using h3)]
      · rw [if_neg (show ¬ (l < 0 ∨ l ≥ 256) by omega), if_pos rfl, certpathref11_Recover.j0, if_neg (by simp; omega)]
        exact ref_rec_tail a l d sg k (by omega) h1
  · rw [if_neg (show ¬ (a.size : Int) = 16 by omega), if_neg h1, if_neg (by decide)]
end Go.Proofs.Ytilehfdplgciiaa.Plain
/-! Public keys and ots.Sign, in plain words; and that what is signed recovers the public key. -/
namespace Go.Proofs.Ytilehfdplgciiaa.Plain
open Go.RowKit Go.Proofs.Ytilehfdplgciiaa.PLM Go.Proofs.YtilehfdplgciiaaW.PrintWords Go.Proofs.YtilehfdplgciiaaW.PrintLast
open Hand (cat sha outBytes comp IV digits nibs short tail3 all16 nib2 lack)
set_option linter.unusedVariables false

def pubG (a s : ByteArray) (l : Int) (j : Nat) : ByteArray := wk a l j 15 0 (secret s l j)
theorem pubG_size (a s : ByteArray) (l : Int) (j : Nat) : (pubG a s l j).size = 16 := wk_size _ _ _ _ _ _ (secret_size _ _ _)
def pubR (a s : ByteArray) (l : Int) : ByteArray × Int := if chk a s l = 0 then (pub a l (joined (pubG a s l) 35), 0) else (⟨#[]⟩, chk a s l)
theorem ots_pub_l (a s : ByteArray) (l : Int) (ha : a.size ≤ 1000) (hs : s.size ≤ 1000) :
    ∀ (n k j : Nat), n + j = 35 → n + 17 ≤ k → ots_Public.l0 k a s l (col (pubG a s l) j) (j : Int) = some (pub a l (joined (pubG a s l) 35), 0)
  | 0, k + 1, j, hj, hk => by
    rw [ots_Public.l0, if_neg (by omega), show j = 35 by omega, ots_public_f a l _ (pubG_size a s l) 35 (by decide) ha]
    rfl
  | n + 1, k + 1, j, hj, hk => by
    rw [ots_Public.l0, if_pos (by omega), ots_secret_f s l j hs, Option.bind_some, ots_walk_f a l j 0 15 _ k (by omega) ha (by omega) (by omega) (by omega) (by rw [secret_size]; omega), Option.bind_some]
    change (if (col (pubG a s l) j).length < 8796093022208 then ots_Public.l0 k a s l (col (pubG a s l) j ++ [pubG a s l j]) (wrap64 (j + 1)) else none) = _
    rw [if_pos (by rw [col_len]; omega), ← col_succ, w64 _ (by omega) (by omega)]
    exact ots_pub_l a s l ha hs n k (j + 1) (by omega) (by omega)
theorem ref_pub_l (a s : ByteArray) (l : Int) (ha : a.size ≤ 1000) (hs : s.size ≤ 1000) :
    ∀ (n k j : Nat), n + j = 35 → n + 17 ≤ k → certpathref11_Public.l0 k a s l (joined (pubG a s l) j) (j : Int) = some (pub a l (joined (pubG a s l) 35), 0)
  | 0, k + 1, j, hj, hk => by
    rw [certpathref11_Public.l0, if_neg (by omega), show j = 35 by omega, ref_b4_eq, Option.bind_some, ref_short _ (by rw [pub_len, joined_size _ (pubG_size a s l)]; omega)]
    rfl
  | n + 1, k + 1, j, hj, hk => by
    rw [certpathref11_Public.l0, if_pos (by omega), ref_secret_f s l j hs, Option.bind_some, ref_walk_f a l j 0 15 _ k (by omega) ha (by omega) (by omega) (by omega) (by rw [secret_size]; omega), Option.bind_some]
    change (if (joined (pubG a s l) j).size + (pubG a s l j).size ≤ 9223372036854775807 then certpathref11_Public.l0 k a s l (joined (pubG a s l) j ++ pubG a s l j) (wrap64 (j + 1)) else none) = _
    rw [if_pos (by rw [joined_size _ (pubG_size a s l), pubG_size]; omega), ← joined_succ, w64 _ (by omega) (by omega)]
    exact ref_pub_l a s l ha hs n k (j + 1) (by omega) (by omega)
theorem ots_pub_f (a s : ByteArray) (l : Int) (k : Nat) (hk : 60 ≤ k) : ots_Public.f k a s l = some (pubR a s l) := by
  unfold ots_Public.f pubR
  rw [ots_seed_f, Option.bind_some]
  by_cases hc : chk a s l = 0
  · have hz := chk_size hc
    rw [if_pos hc, if_pos hc]
    exact ots_pub_l a s l (by omega) (by omega) 35 k 0 (by omega) (by omega)
  · rw [if_neg hc, if_neg hc]
theorem ref_pub_f (a s : ByteArray) (l : Int) (k : Nat) (hk : 60 ≤ k) : certpathref11_Public.f k a s l = some (pubR a s l) := by
  unfold certpathref11_Public.f pubR
  rw [ref_check_f a s l k (by omega), Option.bind_some]
  by_cases hc : chk a s l = 0
  · have hz := chk_size hc
    rw [if_pos hc, if_pos hc]
    exact ref_pub_l a s l (by omega) (by omega) 35 k 0 (by omega) (by omega)
  · rw [if_neg hc, if_neg hc]
theorem ots_sign_l (a s : ByteArray) (l : Int) (D : List Int) (hD : D.length = 35) (hr : ∀ j : Nat, j < 35 → 0 ≤ rd D j ∧ rd D j ≤ 15) (ha : a.size ≤ 1000) (hs : s.size ≤ 1000) :
    ∀ (n k j : Nat), n + j = 35 → n + 17 ≤ k → ots_Sign.l0 k a s l D (col (sigG a s l D) j) (j : Int) = some (joined (sigG a s l D) 35, 0)
  | 0, k + 1, j, hj, hk => by
    rw [ots_Sign.l0, if_neg (by omega), show j = 35 by omega, ots_join_f _ (sigG_size a s l D) 35 (by decide)]
    rfl
  | n + 1, k + 1, j, hj, hk => by
    have hx := hr j (by omega)
    rw [ots_Sign.l0, if_pos (by omega), if_pos (by omega), if_pos (by omega), ots_secret_f s l j hs, Option.bind_some, ots_walk_f a l j 0 (rd D j) _ k (by omega) ha (by omega) hx.1 hx.2 (by rw [secret_size]; omega), Option.bind_some]
    rw [show (rd D (j : Int) - 0).toNat = (rd D (j : Int)).toNat by rw [Int.sub_zero]]
    change (if (col (sigG a s l D) j).length < 8796093022208 then ots_Sign.l0 k a s l D (col (sigG a s l D) j ++ [sigG a s l D j]) (wrap64 (j + 1)) else none) = _
    rw [if_pos (by rw [col_len]; omega), ← col_succ, w64 _ (by omega) (by omega)]
    exact ots_sign_l a s l D hD hr ha hs n k (j + 1) (by omega) (by omega)
theorem ots_sign_f (a s : ByteArray) (l : Int) (d : ByteArray) (k : Nat) (hk : 60 ≤ k) : ots_Sign.f k a s l d = some (signR a s l d) := by
  unfold ots_Sign.f signR
  rw [ots_seed_f, Option.bind_some]
  by_cases hc : chk a s l = 0
  · have hz := chk_size hc
    rw [if_pos hc, if_pos hc, ots_digits_f, Option.bind_some]
    by_cases hd : d.size = 16
    · rw [if_pos hd, if_pos rfl, if_pos hd]
      exact ots_sign_l a s l (digits (bytesOf d)) (digits_len _ (by rw [bytesOf_length, hd])) (digits_range d hd) (by omega) (by omega) 35 k 0 (by omega) (by omega)
    · rw [if_neg hd, if_neg (by decide), if_neg hd]
  · rw [if_neg hc, if_neg hc]
/-- What is signed recovers the public key's chain ends. -/
theorem rec_sig (a s : ByteArray) (l : Int) (D : List Int) (hr : ∀ j : Nat, j < 35 → 0 ≤ rd D j ∧ rd D j ≤ 15) (j : Nat) (hj : j < 35) : recG a l D (joined (sigG a s l D) 35) j = pubG a s l j := by
  have hx := hr j hj
  unfold recG pubG
  rw [if_pos hj, joined_piece _ (sigG_size a s l D) j 35 hj]
  unfold sigG
  have e : (15 : Nat) = (rd D (j : Int)).toNat + (15 - rd D (j : Int)).toNat := by omega
  conv => rhs; rw [e]
  rw [wk_add]
  congr 1
  omega
theorem joined_congr (g g' : Nat → ByteArray) (n : Nat) (h : ∀ j, j < n → g j = g' j) : joined g n = joined g' n := by
  unfold joined col
  rw [List.map_congr_left fun j hj => h j (List.mem_range.1 hj)]
theorem back (a s : ByteArray) (l : Int) (d : ByteArray) (hc : chk a s l = 0) (hd : d.size = 16) : recR a l d (signR a s l d).1 = pubR a s l := by
  have hz := chk_size hc
  have hA : chkA a l = 0 := by
    have := hc
    unfold chk at this
    rw [if_pos hz] at this
    unfold chkA
    rw [if_pos hz.1]
    exact this
  unfold recR pubR signR
  rw [if_pos hA, if_pos hd, if_pos hc, if_pos hd, if_pos hc, if_pos (joined_size _ (sigG_size a s l _) 35)]
  rw [joined_congr _ _ 35 (rec_sig a s l _ (digits_range d hd))]
end Go.Proofs.Ytilehfdplgciiaa.Plain
/-! Trees of one-time keys, in plain words: levels, keys, signatures. -/
namespace Go.Proofs.Ytilehfdplgciiaa.Plain
open Go.RowKit Go.Proofs.Ytilehfdplgciiaa.PLM Go.Proofs.YtilehfdplgciiaaW.PrintWords Go.Proofs.YtilehfdplgciiaaW.PrintLast
open Hand (cat sha outBytes comp IV digits nibs short tail3 all16 nib2 lack)
set_option linter.unusedVariables false

theorem u8_wf {x : Int} (h : (Lit.int .u8 x).wf = true) : 0 ≤ x ∧ x ≤ 255 := by
  simp [Lit.wf, IntKind.min, IntKind.max, IntKind.signed, IntKind.bits] at h
  omega
def seed (x : Int) : ByteArray := full [⟨#[115, 101, 101, 100]⟩, b4 x]
theorem seed_size (x : Int) : (seed x).size = 32 := full_size _
theorem seed_f (x : Int) : certpathmade_Seed.f x = some (seed x) := by
  unfold certpathmade_Seed.f
  rw [ref_b4_eq, Option.bind_some, ref_sum _ (by simp only [cat_cons, cat_nil, List.length_append, bytesOf_length, b4_size, List.length_nil]; decide)]
  rfl
/-- A tree's name. -/
def nameOf (s : ByteArray) : ByteArray := sh [⟨#[73]⟩, s]
theorem nameOf_size (s : ByteArray) : (nameOf s).size = 16 := sh_size _
/-- The node above two nodes. -/
def par (id : ByteArray) (l i : Int) (a b : ByteArray) : ByteArray := sh [⟨#[78]⟩, id, b1 l, b4 i, a, b]
theorem par_size (id : ByteArray) (l i : Int) (a b : ByteArray) : (par id l i a b).size = 16 := sh_size _
/-- The digest of a message for a leaf. -/
def mdig (id root : ByteArray) (leaf : Int) (m : ByteArray) : ByteArray := sh [⟨#[77]⟩, id, root, b4 leaf, m]
theorem mdig_size (id root : ByteArray) (leaf : Int) (m : ByteArray) : (mdig id root leaf m).size = 16 := sh_size _
def at_ (xs : List ByteArray) (i : Nat) : ByteArray := xs.getD i ByteArray.empty
def up (id : ByteArray) (l : Nat) (xs : List ByteArray) : List ByteArray := (List.range (xs.length / 2)).map fun (i : Nat) => par id (l : Int) (i : Int) (at_ xs (2 * i)) (at_ xs (2 * i + 1))
def leafKey (id s : ByteArray) (i : Nat) : ByteArray := (pubR id s (i : Int)).1
def lev (s id : ByteArray) (h : Nat) : Nat → List ByteArray
  | 0 => (List.range (2 ^ h)).map fun i => leafKey id s i
  | l + 1 => up id l (lev s id h l)
theorem lev_len (s id : ByteArray) (h : Nat) : ∀ l, l ≤ h → (lev s id h l).length = 2 ^ (h - l)
  | 0, _ => by simp [lev]
  | l + 1, hl => by
    have ih := lev_len s id h l (by omega)
    unfold lev up
    rw [List.length_map, List.length_range, ih, show h - l = (h - (l + 1)) + 1 by omega, Nat.pow_succ]
    omega
def levels (s : ByteArray) (h : Nat) : List (List ByteArray) := (List.range (h + 1)).map (lev s (nameOf s) h)
theorem levels_len (s : ByteArray) (h : Nat) : (levels s h).length = h + 1 := by simp [levels]
theorem levels_get (s : ByteArray) (h l : Nat) (hl : l < (levels s h).length) : (levels s h)[l] = lev s (nameOf s) h l := by simp [levels]
def root (s : ByteArray) (h : Nat) : ByteArray := at_ (lev s (nameOf s) h h) 0
theorem at_map {f : Nat → ByteArray} {n i : Nat} (h : i < n) : at_ ((List.range n).map f) i = f i := by
  unfold at_
  rw [List.getD_eq_getElem?_getD, List.getElem?_map, List.getElem?_range h]
  rfl
theorem leafKey_size (id s : ByteArray) (i : Nat) (h1 : id.size = 16) (h2 : s.size = 32) (h3 : i < 256) : (leafKey id s i).size = 16 := by
  unfold leafKey pubR chk
  rw [if_pos (show (if id.size = 16 ∧ s.size = 32 then (if (i : Int) < 0 ∨ (i : Int) ≥ 256 then (1 : Int) else 0) else 18) = 0 by rw [if_pos ⟨h1, h2⟩, if_neg (by omega)])]
  exact sh_size _
theorem lev_size (s id : ByteArray) (h : Nat) (h8 : h ≤ 8) (h1 : id.size = 16) (h2 : s.size = 32) : ∀ l, l ≤ h → ∀ i, i < 2 ^ (h - l) → (at_ (lev s id h l) i).size = 16
  | 0, _, i, hi => by
    have : 2 ^ h ≤ 2 ^ 8 := Nat.pow_le_pow_right (by decide) h8
    have hi2 : i < 2 ^ h := by simpa using hi
    unfold lev
    rw [at_map hi2]
    exact leafKey_size id s i h1 h2 (by omega)
  | l + 1, hl, i, hi => by
    have hll := lev_len s id h l (by omega)
    unfold lev up
    rw [hll, show h - l = (h - (l + 1)) + 1 by omega, Nat.pow_succ, Nat.mul_div_cancel _ (by decide), at_map hi]
    exact par_size _ _ _ _ _
theorem root_size (s : ByteArray) (h : Nat) (h8 : h ≤ 8) (h2 : s.size = 32) : (root s h).size = 16 := lev_size s _ h h8 (nameOf_size s) h2 h (Nat.le_refl _) 0 (by simp)
/-- The neighbour of a node. -/
def nb (i : Nat) : Nat := if i % 2 = 0 then i + 1 else i - 1
theorem nb_lt (i n : Nat) (h : i < 2 ^ (n + 1)) : nb i < 2 ^ (n + 1) := by
  rw [Nat.pow_succ] at h ⊢
  unfold nb
  split <;> omega
/-- A signature: the leaf, the one-time signature, l neighbours. -/
def sigL (s : ByteArray) (h leaf : Nat) (m : ByteArray) : Nat → ByteArray
  | 0 => b4 leaf ++ (signR (nameOf s) s leaf (mdig (nameOf s) (root s h) leaf m)).1
  | l + 1 => sigL s h leaf m l ++ at_ (lev s (nameOf s) h l) (nb (leaf / 2 ^ l))
def sigR (s : ByteArray) (h leaf : Nat) (m : ByteArray) : ByteArray := sigL s h leaf m h
theorem chk_ok (id s : ByteArray) (leaf : Nat) (h1 : id.size = 16) (h2 : s.size = 32) (h3 : leaf < 256) : chk id s leaf = 0 := by
  unfold chk
  rw [if_pos ⟨h1, h2⟩, if_neg (by omega)]
theorem signR_ok (id s : ByteArray) (leaf : Nat) (d : ByteArray) (h1 : id.size = 16) (h2 : s.size = 32) (h3 : leaf < 256) (h4 : d.size = 16) : (signR id s leaf d).2 = 0 ∧ (signR id s leaf d).1.size = 560 := by
  unfold signR
  rw [if_pos (chk_ok id s leaf h1 h2 h3), if_pos h4]
  exact ⟨rfl, joined_size _ (sigG_size _ _ _ _) 35⟩
theorem pubR_ok (id s : ByteArray) (leaf : Nat) (h1 : id.size = 16) (h2 : s.size = 32) (h3 : leaf < 256) : pubR id s leaf = (leafKey id s leaf, 0) := by
  unfold leafKey pubR
  rw [if_pos (chk_ok id s leaf h1 h2 h3)]
theorem sigL_size (s : ByteArray) (h leaf : Nat) (m : ByteArray) (h8 : h ≤ 8) (h2 : s.size = 32) (hl : leaf < 2 ^ h) : ∀ l, l ≤ h → (sigL s h leaf m l).size = 564 + 16 * l
  | 0, _ => by
    have : 2 ^ h ≤ 2 ^ 8 := Nat.pow_le_pow_right (by decide) h8
    unfold sigL
    rw [ByteArray.size_append, b4_size, (signR_ok _ _ _ _ (nameOf_size s) h2 (by omega) (mdig_size _ _ _ _)).2]
  | l + 1, hh => by
    have h5 : leaf / 2 ^ l < 2 ^ (h - l) := by
      rw [Nat.div_lt_iff_lt_mul (Nat.pow_pos (by decide)), ← Nat.pow_add, show h - l + l = h by omega]
      exact hl
    have h6 : nb (leaf / 2 ^ l) < 2 ^ (h - l) := by
      rw [show h - l = (h - l - 1) + 1 by omega] at h5 ⊢
      exact nb_lt _ _ h5
    unfold sigL
    rw [ByteArray.size_append, sigL_size s h leaf m h8 h2 hl l (by omega), lev_size s _ h h8 (nameOf_size s) h2 l (by omega) _ h6]
    omega
theorem b4_small (x : Nat) (h : x < 256) : b4 (x : Int) = ⟨#[0, 0, 0, UInt8.ofNat x]⟩ := by
  unfold b4 strOfNums
  rw [show (x : Int) / 16777216 % 256 = 0 by omega, show (x : Int) / 65536 % 256 = 0 by omega, show (x : Int) / 256 % 256 = 0 by omega, show (x : Int) % 256 = x by omega]
  simp
end Go.Proofs.Ytilehfdplgciiaa.Plain
/-! Verifying, in plain words; what a tree signs verifies. -/
namespace Go.Proofs.Ytilehfdplgciiaa.Plain
open Go.RowKit Go.Proofs.Ytilehfdplgciiaa.PLM Go.Proofs.YtilehfdplgciiaaW.PrintWords Go.Proofs.YtilehfdplgciiaaW.PrintLast
open Hand (cat sha outBytes comp IV digits nibs short tail3 all16 nib2 lack)
set_option linter.unusedVariables false

theorem extract_left (a b : ByteArray) (i j : Nat) (h : j ≤ a.size) : (a ++ b).extract i j = a.extract i j := by
  apply bytesOf_inj
  rw [Hand.bytesOf_extract, Hand.bytesOf_extract, Hand.bytesOf_append, ← List.drop_take, ← List.drop_take, List.take_append_of_le_length (by rw [bytesOf_length]; exact h)]
theorem extract_right (a b : ByteArray) (i j : Nat) (h : i = a.size) (h2 : j = a.size + b.size) : (a ++ b).extract i j = b := by
  apply bytesOf_inj
  rw [Hand.bytesOf_extract, Hand.bytesOf_append, show i = (bytesOf a).length by rw [bytesOf_length]; exact h, List.drop_left, List.take_of_length_le (by rw [bytesOf_length, bytesOf_length]; omega)]
/-- The first k bytes, as a number. -/
def lfP (s : ByteArray) : Nat → Int
  | 0 => 0
  | k + 1 => lfP s k * 256 + bt s (k : Int)
theorem lfP_range (s : ByteArray) : ∀ k, 0 ≤ lfP s k ∧ lfP s k < 256 ^ k
  | 0 => ⟨Int.le_refl _, show (0 : Int) < 256 ^ 0 by decide⟩
  | k + 1 => by
    have ih := lfP_range s k
    have hb := bt_range s (k : Int)
    have e : (256 : Int) ^ (k + 1) = 256 ^ k * 256 := Int.pow_succ 256 k
    rw [e]
    generalize (256 : Int) ^ k = p at *
    show 0 ≤ lfP s k * 256 + bt s (k : Int) ∧ lfP s k * 256 + bt s (k : Int) < p * 256
    omega
/-- The leaf that a signature names. -/
def leafN (s : ByteArray) : Nat := (lfP s 4).toNat
def pathUp (id sig : ByteArray) (leaf : Nat) (v : ByteArray) : Nat → ByteArray
  | 0 => v
  | l + 1 => if leaf / 2 ^ l % 2 = 0 then par id (l : Int) ((leaf / 2 ^ l / 2 : Nat) : Int) (pathUp id sig leaf v l) (sig.extract (564 + 16 * l) (564 + 16 * l + 16))
    else par id (l : Int) ((leaf / 2 ^ l / 2 : Nat) : Int) (sig.extract (564 + 16 * l) (564 + 16 * l + 16)) (pathUp id sig leaf v l)
def startV (id rt m sig : ByteArray) : ByteArray := (recR id (leafN sig) (mdig id rt (leafN sig) m) (sig.extract 4 564)).1
def verR (h : Int) (id rt m sig : ByteArray) : Int :=
  if 0 ≤ h ∧ h ≤ 8 ∧ id.size = 16 ∧ rt.size = 16 then
    (if (sig.size : Int) = 564 + 16 * h then (if leafN sig < 2 ^ h.toNat then (if pathUp id sig (leafN sig) (startV id rt m sig) h.toNat = rt then 0 else 17) else 17) else 17)
  else 18
theorem recR_ok (id : ByteArray) (leaf : Nat) (d sg : ByteArray) (h1 : id.size = 16) (h2 : leaf < 256) (h3 : d.size = 16) (h4 : sg.size = 560) : (recR id leaf d sg).2 = 0 ∧ (recR id leaf d sg).1.size = 16 := by
  unfold recR
  have hc : chkA id leaf = 0 := by unfold chkA; rw [if_pos h1, if_neg (by omega)]
  rw [if_pos hc, if_pos h3, if_pos h4]
  exact ⟨rfl, sh_size _⟩
theorem pathUp_size (id sig : ByteArray) (leaf : Nat) (v : ByteArray) (hv : v.size = 16) : ∀ l, (pathUp id sig leaf v l).size = 16
  | 0 => hv
  | l + 1 => by unfold pathUp; split <;> exact par_size _ _ _ _ _
theorem sigL_pre (s : ByteArray) (h leaf : Nat) (m : ByteArray) (l : Nat) (i j : Nat) (hj : j ≤ (sigL s h leaf m l).size) : ∀ n, (sigL s h leaf m (l + n)).extract i j = (sigL s h leaf m l).extract i j
  | 0 => rfl
  | n + 1 => by
    have hmono : ∀ k, (sigL s h leaf m l).size ≤ (sigL s h leaf m (l + k)).size := by
      intro k
      induction k with
      | zero => exact Nat.le_refl _
      | succ k ih =>
        show _ ≤ (sigL s h leaf m (l + k) ++ _).size
        rw [ByteArray.size_append]
        omega
    show (sigL s h leaf m (l + n) ++ _).extract i j = _
    rw [extract_left _ _ _ _ (by have := hmono n; omega)]
    exact sigL_pre s h leaf m l i j hj n
theorem bt_left (a b : ByteArray) (i : Nat) (h : i < a.size) : bt (a ++ b) (i : Int) = bt a (i : Int) := by
  rw [← rd_bytesOf, ← rd_bytesOf, Hand.bytesOf_append]
  unfold rd
  rw [Int.toNat_natCast, List.getD_eq_getElem?_getD, List.getD_eq_getElem?_getD, List.getElem?_append_left (by rw [bytesOf_length]; exact h)]
theorem b4_bytes (x : Int) : bytesOf (b4 x) = [x / 16777216 % 256, x / 65536 % 256, x / 256 % 256, x % 256] := by
  unfold b4
  exact Hand.bytesOf_strOfNums _ (fun y hy => by
    simp at hy
    omega)
theorem sigL_bt (s : ByteArray) (h leaf : Nat) (m : ByteArray) (i : Nat) (hi : i < 4) : ∀ l, bt (sigL s h leaf m l) (i : Int) = bt (b4 leaf) (i : Int)
  | 0 => bt_left _ _ i (by rw [b4_size]; exact hi)
  | l + 1 => by
    have : 4 ≤ (sigL s h leaf m l).size := by
      clear hi
      induction l with
      | zero => show _ ≤ (b4 leaf ++ _).size; rw [ByteArray.size_append, b4_size]; omega
      | succ l ih => show _ ≤ (sigL s h leaf m l ++ _).size; rw [ByteArray.size_append]; omega
    show bt (sigL s h leaf m l ++ _) _ = _
    rw [bt_left _ _ i (by omega)]
    exact sigL_bt s h leaf m i hi l
theorem leaf_own (s : ByteArray) (h leaf : Nat) (m : ByteArray) (hl : leaf < 256) : lfP (sigR s h leaf m) 4 = leaf := by
  have hb := fun i hi => sigL_bt s h leaf m i hi h
  have e0 := hb 0 (by decide)
  have e1 := hb 1 (by decide)
  have e2 := hb 2 (by decide)
  have e3 := hb 3 (by decide)
  rw [← rd_bytesOf (b4 leaf), b4_bytes] at e0 e1 e2 e3
  show (((0 * 256 + bt (sigL s h leaf m h) (0 : Nat)) * 256 + bt (sigL s h leaf m h) (1 : Nat)) * 256 + bt (sigL s h leaf m h) (2 : Nat)) * 256 + bt (sigL s h leaf m h) (3 : Nat) = _
  rw [e0, e1, e2, e3]
  show (((0 * 256 + (leaf : Int) / 16777216 % 256) * 256 + (leaf : Int) / 65536 % 256) * 256 + (leaf : Int) / 256 % 256) * 256 + (leaf : Int) % 256 = leaf
  omega
theorem path_own (s : ByteArray) (h leaf : Nat) (m : ByteArray) (h8 : h ≤ 8) (hs : s.size = 32) (hl : leaf < 2 ^ h) : ∀ l, l ≤ h →
    pathUp (nameOf s) (sigR s h leaf m) leaf (leafKey (nameOf s) s leaf) l = at_ (lev s (nameOf s) h l) (leaf / 2 ^ l)
  | 0, _ => by
    rw [Nat.pow_zero, Nat.div_one]
    unfold lev
    rw [at_map hl]
    rfl
  | l + 1, hlh => by
    have hi8 : leaf / 2 ^ l < 2 ^ (h - l) := by
      rw [Nat.div_lt_iff_lt_mul (Nat.pow_pos (by decide)), ← Nat.pow_add, show h - l + l = h by omega]
      exact hl
    have hx : (sigR s h leaf m).extract (564 + 16 * l) (564 + 16 * l + 16) = at_ (lev s (nameOf s) h l) (nb (leaf / 2 ^ l)) := by
      have hz := sigL_size s h leaf m h8 hs hl l (by omega)
      have hz1 := sigL_size s h leaf m h8 hs hl (l + 1) hlh
      have e := sigL_pre s h leaf m (l + 1) (564 + 16 * l) (564 + 16 * l + 16) (by omega) (h - (l + 1))
      rw [show l + 1 + (h - (l + 1)) = h by omega] at e
      refine e.trans ?_
      have hz2 : (sigL s h leaf m l ++ at_ (lev s (nameOf s) h l) (nb (leaf / 2 ^ l))).size = 564 + 16 * (l + 1) := hz1
      rw [ByteArray.size_append] at hz2
      exact extract_right _ _ _ _ (by omega) (by omega)
    unfold pathUp
    rw [hx, path_own s h leaf m h8 hs hl l (by omega)]
    have hll := lev_len s (nameOf s) h l (by omega)
    have hup : at_ (lev s (nameOf s) h (l + 1)) (leaf / 2 ^ (l + 1)) = par (nameOf s) (l : Int) ((leaf / 2 ^ l / 2 : Nat) : Int) (at_ (lev s (nameOf s) h l) (2 * (leaf / 2 ^ l / 2))) (at_ (lev s (nameOf s) h l) (2 * (leaf / 2 ^ l / 2) + 1)) := by
      rw [show leaf / 2 ^ (l + 1) = leaf / 2 ^ l / 2 by rw [Nat.pow_succ, Nat.div_div_eq_div_mul]]
      have h2 : 2 ^ (h - l) = 2 ^ (h - (l + 1)) * 2 := by
        generalize hk : h - (l + 1) = k
        rw [show h - l = k + 1 by omega, Nat.pow_succ]
      show at_ (up (nameOf s) l (lev s (nameOf s) h l)) _ = _
      unfold up
      rw [hll, at_map (by omega)]
    rw [hup]
    generalize leaf / 2 ^ l = i at *
    by_cases hi : i % 2 = 0
    · rw [if_pos hi, show 2 * (i / 2) = i by omega, show nb i = i + 1 by unfold nb; rw [if_pos hi]]
    · rw [if_neg hi, show 2 * (i / 2) + 1 = i by omega, show 2 * (i / 2) = i - 1 by omega, show nb i = i - 1 by unfold nb; rw [if_neg hi]]
theorem ver_own (s : ByteArray) (h leaf : Nat) (m : ByteArray) (h8 : h ≤ 8) (hs : s.size = 32) (hl : leaf < 2 ^ h) : verR h (nameOf s) (root s h) m (sigR s h leaf m) = 0 := by
  have hp : 2 ^ h ≤ 2 ^ 8 := Nat.pow_le_pow_right (by decide) h8
  have hl8 : leaf < 256 := by omega
  have hlf : leafN (sigR s h leaf m) = leaf := by unfold leafN; rw [leaf_own s h leaf m hl8, Int.toNat_natCast]
  have hz : (sigR s h leaf m).size = 564 + 16 * h := sigL_size s h leaf m h8 hs hl h (Nat.le_refl _)
  have hz0 := sigL_size s h leaf m h8 hs hl 0 (Nat.zero_le _)
  have hsg := (signR_ok (nameOf s) s leaf (mdig (nameOf s) (root s h) leaf m) (nameOf_size s) hs hl8 (mdig_size _ _ _ _)).2
  have hx : (sigR s h leaf m).extract 4 564 = (signR (nameOf s) s leaf (mdig (nameOf s) (root s h) leaf m)).1 := by
    have e := sigL_pre s h leaf m 0 4 564 (by omega) h
    rw [Nat.zero_add] at e
    refine e.trans ?_
    exact extract_right _ _ _ _ (by rw [b4_size]) (by rw [b4_size, hsg])
  have hv : startV (nameOf s) (root s h) m (sigR s h leaf m) = leafKey (nameOf s) s leaf := by
    unfold startV
    rw [hlf, hx, back _ _ _ _ (chk_ok _ _ _ (nameOf_size s) hs hl8) (mdig_size _ _ _ _)]
    rfl
  have hpath := path_own s h leaf m h8 hs hl h (Nat.le_refl _)
  rw [Nat.div_eq_of_lt hl] at hpath
  unfold verR
  rw [if_pos ⟨by omega, by omega, nameOf_size s, root_size s h h8 hs⟩, if_pos (by omega), hlf, Int.toNat_natCast, if_pos hl, hv, if_pos (show _ = root s h from hpath)]
end Go.Proofs.Ytilehfdplgciiaa.Plain
