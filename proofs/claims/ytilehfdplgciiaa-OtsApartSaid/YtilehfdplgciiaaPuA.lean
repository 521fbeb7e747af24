import Derived.Test.YtilehfdplgciiaaPL11x4
/-! What the printed functions of the one-time signatures tell, in plain words: digests, walks, secrets, digits. -/
namespace Go.Proofs.Ytilehfdplgciiaa.Plain
open Go.RowKit Go.Proofs.Ytilehfdplgciiaa.PL11 Go.Proofs.YtilehfdplgciiaaW.PrintWords Go.Proofs.YtilehfdplgciiaaW.PrintLast
open Hand (cat sha outBytes comp IV digits nibs short tail3 all16 nib2 lack)
set_option linter.unusedVariables false

/-! ### digests -/
theorem strOfNums_size (xs : List Int) : (strOfNums xs).size = xs.length := by
  unfold strOfNums
  show (List.map _ xs).toArray.size = _
  simp
theorem bytesOf_range (s : ByteArray) : ∀ x ∈ bytesOf s, 0 ≤ x ∧ x < 256 := by
  intro x hx
  unfold bytesOf at hx
  obtain ⟨b, _, rfl⟩ := List.mem_map.1 hx
  have := b.toNat_lt
  omega
theorem cat_range (l : List ByteArray) : ∀ x ∈ cat l, 0 ≤ x ∧ x < 256 := by
  intro x hx
  unfold cat at hx
  obtain ⟨y, hy, hx⟩ := List.mem_flatten.1 hx
  obtain ⟨s, _, rfl⟩ := List.mem_map.1 hy
  exact bytesOf_range s x hx
theorem strOfNums_bytesOf (s : ByteArray) : strOfNums (bytesOf s) = s := by
  unfold strOfNums bytesOf
  rw [List.map_map]
  have : (List.map ((fun n : Int => UInt8.ofNat n.toNat) ∘ fun b : UInt8 => (b.toNat : Int)) s.data.toList) = s.data.toList := by
    refine (List.map_congr_left fun x _ => ?_).trans (List.map_id _)
    simp
  rw [this]
theorem bytesOf_inj {s t : ByteArray} (h : bytesOf s = bytesOf t) : s = t := by rw [← strOfNums_bytesOf s, ← strOfNums_bytesOf t, h]
theorem cat_nil : cat [] = [] := rfl
theorem cat_cons (s : ByteArray) (l : List ByteArray) : cat (s :: l) = bytesOf s ++ cat l := by simp [cat]
theorem cat_append (a b : List ByteArray) : cat (a ++ b) = cat a ++ cat b := by simp [cat]
theorem bytesOf_cat (l : List ByteArray) : bytesOf (strOfNums (cat l)) = cat l := Hand.bytesOf_strOfNums _ (cat_range l)
theorem sha_len (m : List Int) : (sha m).length = 32 := by
  unfold sha
  rw [Hand.outBytes_len, Hand.comp_len _ _ rfl]
/-- A digest, cut to sixteen bytes. -/
def sh (l : List ByteArray) : ByteArray := (strOfNums (sha (cat l))).extract 0 16
theorem sh_size (l : List ByteArray) : (sh l).size = 16 := by
  unfold sh
  rw [ByteArray.size_extract, strOfNums_size, sha_len]
  rfl
theorem sh_congr {l l' : List ByteArray} (h : cat l = cat l') : sh l = sh l' := by unfold sh; rw [h]
/-- A whole digest. -/
def full (l : List ByteArray) : ByteArray := strOfNums (sha (cat l))
theorem full_size (l : List ByteArray) : (full l).size = 32 := by unfold full; rw [strOfNums_size, sha_len]
theorem ref_sum (l : List ByteArray) (h : (cat l).length ≤ 1099511627776) : Given.certpathref01_Sum.f l = some (full l) := by
  unfold Given.certpathref01_Sum.f Hand.hash_Sum.f
  rw [if_pos h]
  rfl
theorem ots_short (l : List ByteArray) (h : (cat l).length ≤ 1099511627776) : hash_Short.f l = some (sh l) := by
  unfold hash_Short.f Given.hash_Sum.f Hand.hash_Sum.f
  rw [if_pos h, Option.bind_some, if_pos (by decide), if_pos (by rw [strOfNums_size, sha_len]; decide)]
  rfl
theorem ref_short (l : List ByteArray) (h : (cat l).length ≤ 1099511627776) : certpathref01_Short.f l = some (sh l) := by
  unfold certpathref01_Short.f
  rw [ref_sum l h, Option.bind_some, if_pos (by decide), if_pos (by rw [full_size]; decide)]
  rfl
/-! ### small words -/
def b4 (x : Int) : ByteArray := strOfNums [x / 16777216 % 256, x / 65536 % 256, x / 256 % 256, x % 256]
def b1 (x : Int) : ByteArray := strOfNums [x % 256]
theorem b4_size (x : Int) : (b4 x).size = 4 := by unfold b4; rw [strOfNums_size]; rfl
theorem b1_size (x : Int) : (b1 x).size = 1 := by unfold b1; rw [strOfNums_size]; rfl
theorem ots_b4_eq (x : Int) : ots_b4.f x = some (b4 x) := rfl
theorem ots_b1_eq (x : Int) : ots_b1.f x = some (b1 x) := rfl
theorem ref_b4_eq (x : Int) : certpathref11_B4.f x = some (b4 x) := rfl
theorem ref_b1_eq (x : Int) : certpathref11_B1.f x = some (b1 x) := rfl
/-! ### a chain's step and walk -/
def step (a : ByteArray) (l c i : Int) (v : ByteArray) : ByteArray := sh [⟨#[67]⟩, a, b4 l, b1 c, b1 i, v]
def wk (a : ByteArray) (l c : Int) : Nat → Int → ByteArray → ByteArray
  | 0, _, v => v
  | n + 1, i, v => wk a l c n (i + 1) (step a l c i v)
theorem step_size (a : ByteArray) (l c i : Int) (v : ByteArray) : (step a l c i v).size = 16 := sh_size _
theorem wk_size (a : ByteArray) (l c : Int) : ∀ (n : Nat) (i : Int) (v : ByteArray), v.size = 16 → (wk a l c n i v).size = 16
  | 0, _, v, h => h
  | n + 1, i, v, _ => wk_size a l c n (i + 1) _ (step_size a l c i v)
theorem wk_add (a : ByteArray) (l c : Int) : ∀ (n m : Nat) (i : Int) (v : ByteArray), wk a l c (n + m) i v = wk a l c m (i + n) (wk a l c n i v)
  | 0, m, i, v => by simp [wk]
  | n + 1, m, i, v => by
    rw [Nat.add_right_comm]
    show wk a l c (n + m) (i + 1) _ = _
    rw [wk_add a l c n m (i + 1)]
    show wk a l c m (i + 1 + n) _ = wk a l c m (i + (n + 1 : Nat)) _
    congr 1
    omega
theorem w64 (x : Int) (h0 : -9223372036854775808 ≤ x) (h1 : x ≤ 9223372036854775807) : wrap64 x = x := by
  unfold wrap64
  omega
theorem chain_len (a : ByteArray) (l c i : Int) (v : ByteArray) : (cat [⟨#[67]⟩, a, b4 l, b1 c, b1 i, v]).length = 7 + a.size + v.size := by
  simp only [cat_cons, cat_nil, List.length_append, bytesOf_length, b4_size, b1_size, List.length_nil]
  show 1 + _ = _
  omega
theorem ots_walk_eq (a : ByteArray) (l c e : Int) (ha : a.size ≤ 1000) (ht : e ≤ 15) : ∀ (n k : Nat) (i : Int) (v : ByteArray), n + 1 ≤ k → 0 ≤ i → i + n = e → v.size ≤ 1000 → ots_walk.l0 k a l c e v i = some (wk a l c n i v)
  | 0, k + 1, i, v, hk, hi, he, hv => by
    rw [ots_walk.l0]
    rw [if_neg (by omega)]
    rfl
  | n + 1, k + 1, i, v, hk, hi, he, hv => by
    rw [ots_walk.l0]
    rw [if_pos (by omega), ots_b4_eq, Option.bind_some, ots_b1_eq, Option.bind_some, ots_b1_eq, Option.bind_some, ots_short _ (by rw [chain_len]; omega), Option.bind_some, w64 _ (by omega) (by omega)]
    exact ots_walk_eq a l c e ha ht n k (i + 1) _ (by omega) (by omega) (by omega) (by rw [sh_size]; omega)
theorem ref_walk_eq (a : ByteArray) (l c e : Int) (ha : a.size ≤ 1000) (ht : e ≤ 15) : ∀ (n k : Nat) (i : Int) (v : ByteArray), n + 1 ≤ k → 0 ≤ i → i + n = e → v.size ≤ 1000 → certpathref11_walk.l0 k a l c e v i = some (wk a l c n i v)
  | 0, k + 1, i, v, hk, hi, he, hv => by
    rw [certpathref11_walk.l0]
    rw [if_neg (by omega)]
    rfl
  | n + 1, k + 1, i, v, hk, hi, he, hv => by
    rw [certpathref11_walk.l0]
    rw [if_pos (by omega), ref_b4_eq, Option.bind_some, ref_b1_eq, Option.bind_some, ref_b1_eq, Option.bind_some, ref_short _ (by rw [chain_len]; omega), Option.bind_some, w64 _ (by omega) (by omega)]
    exact ref_walk_eq a l c e ha ht n k (i + 1) _ (by omega) (by omega) (by omega) (by rw [sh_size]; omega)
theorem ots_walk_f (a : ByteArray) (l c fr e : Int) (v : ByteArray) (k : Nat) (hk : 16 ≤ k) (ha : a.size ≤ 1000) (h0 : 0 ≤ fr) (h1 : fr ≤ e) (h2 : e ≤ 15) (hv : v.size ≤ 1000) : ots_walk.f k a l c fr e v = some (wk a l c (e - fr).toNat fr v) :=
  ots_walk_eq a l c e ha h2 (e - fr).toNat k fr v (by omega) h0 (by omega) hv
theorem ref_walk_f (a : ByteArray) (l c fr e : Int) (v : ByteArray) (k : Nat) (hk : 16 ≤ k) (ha : a.size ≤ 1000) (h0 : 0 ≤ fr) (h1 : fr ≤ e) (h2 : e ≤ 15) (hv : v.size ≤ 1000) : certpathref11_walk.f k a l c fr e v = some (wk a l c (e - fr).toNat fr v) :=
  ref_walk_eq a l c e ha h2 (e - fr).toNat k fr v (by omega) h0 (by omega) hv
/-! ### secrets -/
def secret (s : ByteArray) (l c : Int) : ByteArray := sh [⟨#[83]⟩, s, b4 l, b1 c]
theorem secret_size (s : ByteArray) (l c : Int) : (secret s l c).size = 16 := sh_size _
theorem secret_len (s : ByteArray) (l c : Int) : (cat [⟨#[83]⟩, s, b4 l, b1 c]).length = 6 + s.size := by
  simp only [cat_cons, cat_nil, List.length_append, bytesOf_length, b4_size, b1_size, List.length_nil]
  show 1 + _ = _
  omega
theorem ots_secret_f (s : ByteArray) (l c : Int) (h : s.size ≤ 1000) : ots_secret.f s l c = some (secret s l c) := by
  unfold ots_secret.f
  rw [ots_b4_eq, Option.bind_some, ots_b1_eq, Option.bind_some, ots_short _ (by rw [secret_len]; omega)]
  rfl
theorem ref_secret_f (s : ByteArray) (l c : Int) (h : s.size ≤ 1000) : certpathref11_secret.f s l c = some (secret s l c) := by
  unfold certpathref11_secret.f
  rw [ref_b4_eq, Option.bind_some, ref_b1_eq, Option.bind_some, ref_short _ (by rw [secret_len]; omega)]
  rfl
/-! ### what is checked first -/
def chk (a s : ByteArray) (l : Int) : Int := if a.size = 16 ∧ s.size = 32 then (if l < 0 ∨ l ≥ 256 then 1 else 0) else 18
def chkA (a : ByteArray) (l : Int) : Int := if a.size = 16 then (if l < 0 ∨ l ≥ 256 then 1 else 0) else 18
theorem ots_leaf_f (a : ByteArray) (l : Int) : ots_checkLeaf.f a l = some (chkA a l) := by
  unfold ots_checkLeaf.f chkA
  by_cases h1 : a.size = 16
  · have h1' : (a.size : Int) = 16 := by omega
    rw [if_pos h1, if_pos h1']
    by_cases h2 : l < 0
    · rw [if_pos h2, if_pos (Or.inl h2)]
    · rw [if_neg h2]
      by_cases h3 : l ≥ 256
      · rw [if_pos h3, if_pos (Or.inr h3)]
      · rw [if_neg h3, if_neg (by omega)]
  · rw [if_neg h1, if_neg (by omega)]
theorem ots_seed_f (a s : ByteArray) (l : Int) : ots_checkSeed.f a s l = some (chk a s l) := by
  unfold ots_checkSeed.f chk
  by_cases h1 : a.size = 16
  · rw [if_pos (show (a.size : Int) = 16 by omega)]
    by_cases h2 : s.size = 32
    · rw [if_pos (show (s.size : Int) = 32 by omega), ots_leaf_f, if_pos ⟨h1, h2⟩, Option.bind_some]
      unfold chkA
      rw [if_pos h1]
    · rw [if_neg (show ¬ (s.size : Int) = 32 by omega), if_neg (fun h => h2 h.2)]
  · rw [if_neg (show ¬ (a.size : Int) = 16 by omega), if_neg (fun h => h1 h.1)]
theorem ref_check_f (a s : ByteArray) (l : Int) (k : Nat) (hk : 1 ≤ k) : certpathref11_check.f k a s l = some (chk a s l) := by
  obtain ⟨k, rfl⟩ : ∃ k', k = k' + 1 := ⟨k - 1, by omega⟩
  unfold certpathref11_check.f chk
  by_cases h1 : a.size = 16
  · rw [if_pos (show (a.size : Int) = 16 by omega)]
    by_cases h2 : s.size = 32
    · have e : ((s.size : Int) != 32) = false := by simp; omega
      rw [e, certpathref11_check.j0, if_neg (show ¬ (false = true) by decide), if_pos (show a.size = 16 ∧ s.size = 32 from ⟨h1, h2⟩)]
      by_cases h3 : l < 0
      · rw [if_pos h3, if_pos (Or.inl h3)]
      · rw [if_neg h3]
        by_cases h4 : l ≥ 256
        · rw [if_pos h4, if_pos (Or.inr h4)]
        · rw [if_neg h4, if_neg (by omega)]
    · have e : ((s.size : Int) != 32) = true := by simp; omega
      rw [e, certpathref11_check.j0, if_pos rfl, if_neg (fun h => h2 h.2)]
  · rw [if_neg (show ¬ (a.size : Int) = 16 by omega), if_neg (fun h => h1 h.1), certpathref11_check.j0, if_pos rfl]
end Go.Proofs.Ytilehfdplgciiaa.Plain
