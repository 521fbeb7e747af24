import Derived.Test.YtilehfdplgciiaaPuB
import Derived.Test.YtilehfdplgciiaaPL11x5
/-! Public keys and ots.Sign, in plain words; and that what is signed recovers the public key. -/
namespace Go.Proofs.Ytilehfdplgciiaa.Plain
open Go.RowKit Go.Proofs.Ytilehfdplgciiaa.PL11 Go.Proofs.YtilehfdplgciiaaW.PrintWords Go.Proofs.YtilehfdplgciiaaW.PrintLast
open Hand (cat sha outBytes comp IV digits nibs short tail3 all16 nib2 lack)
set_option linter.unusedVariables false

def pubG (a s : ByteArray) (l : Int) (j : Nat) : ByteArray := wk a l j 15 0 (secret s l j)
theorem pubG_size (a s : ByteArray) (l : Int) (j : Nat) : (pubG a s l j).size = 16 := wk_size _ _ _ _ _ _ (secret_size _ _ _)
def pubR (a s : ByteArray) (l : Int) : ByteArray × Int := if chk a s l = 0 then (pub a l (joined (pubG a s l) 35), 0) else (⟨#[]⟩, chk a s l)
theorem ots_pub_l (a s : ByteArray) (l : Int) (ha : a.size ≤ 1000) (hs : s.size ≤ 1000) :
    ∀ (n k j : Nat), n + j = 35 → n + 17 ≤ k → ots_Public.l0 k a s l (col (pubG a s l) j) (j : Int) = some (pub a l (joined (pubG a s l) 35), 0)
  | 0, k + 1, j, hj, hk => by
    rw [ots_Public.l0, if_neg (by omega), show j = 35 by omega, ots_public_f a l _ (pubG_size a s l) 35 (by decide) ha]
    rfl
  | n + 1, k + 1, j, hj, hk => by
    rw [ots_Public.l0, if_pos (by omega), ots_secret_f s l j hs, Option.bind_some, ots_walk_f a l j 0 15 _ k (by omega) ha (by omega) (by omega) (by omega) (by rw [secret_size]; omega), Option.bind_some]
    change (if (col (pubG a s l) j).length < 8796093022208 then ots_Public.l0 k a s l (col (pubG a s l) j ++ [pubG a s l j]) (wrap64 (j + 1)) else none) = _
    rw [if_pos (by rw [col_len]; omega), ← col_succ, w64 _ (by omega) (by omega)]
    exact ots_pub_l a s l ha hs n k (j + 1) (by omega) (by omega)
theorem ref_pub_l (a s : ByteArray) (l : Int) (ha : a.size ≤ 1000) (hs : s.size ≤ 1000) :
    ∀ (n k j : Nat), n + j = 35 → n + 17 ≤ k → certpathref11_Public.l0 k a s l (joined (pubG a s l) j) (j : Int) = some (pub a l (joined (pubG a s l) 35), 0)
  | 0, k + 1, j, hj, hk => by
    rw [certpathref11_Public.l0, if_neg (by omega), show j = 35 by omega, ref_b4_eq, Option.bind_some, ref_short _ (by rw [pub_len, joined_size _ (pubG_size a s l)]; omega)]
    rfl
  | n + 1, k + 1, j, hj, hk => by
    rw [certpathref11_Public.l0, if_pos (by omega), ref_secret_f s l j hs, Option.bind_some, ref_walk_f a l j 0 15 _ k (by omega) ha (by omega) (by omega) (by omega) (by rw [secret_size]; omega), Option.bind_some]
    change (if (joined (pubG a s l) j).size + (pubG a s l j).size ≤ 9223372036854775807 then certpathref11_Public.l0 k a s l (joined (pubG a s l) j ++ pubG a s l j) (wrap64 (j + 1)) else none) = _
    rw [if_pos (by rw [joined_size _ (pubG_size a s l), pubG_size]; omega), ← joined_succ, w64 _ (by omega) (by omega)]
    exact ref_pub_l a s l ha hs n k (j + 1) (by omega) (by omega)
theorem ots_pub_f (a s : ByteArray) (l : Int) (k : Nat) (hk : 60 ≤ k) : ots_Public.f k a s l = some (pubR a s l) := by
  unfold ots_Public.f pubR
  rw [ots_seed_f, Option.bind_some]
  by_cases hc : chk a s l = 0
  · have hz := chk_size hc
    rw [if_pos hc, if_pos hc]
    exact ots_pub_l a s l (by omega) (by omega) 35 k 0 (by omega) (by omega)
  · rw [if_neg hc, if_neg hc]
theorem ref_pub_f (a s : ByteArray) (l : Int) (k : Nat) (hk : 60 ≤ k) : certpathref11_Public.f k a s l = some (pubR a s l) := by
  unfold certpathref11_Public.f pubR
  rw [ref_check_f a s l k (by omega), Option.bind_some]
  by_cases hc : chk a s l = 0
  · have hz := chk_size hc
    rw [if_pos hc, if_pos hc]
    exact ref_pub_l a s l (by omega) (by omega) 35 k 0 (by omega) (by omega)
  · rw [if_neg hc, if_neg hc]
theorem ots_sign_l (a s : ByteArray) (l : Int) (D : List Int) (hD : D.length = 35) (hr : ∀ j : Nat, j < 35 → 0 ≤ rd D j ∧ rd D j ≤ 15) (ha : a.size ≤ 1000) (hs : s.size ≤ 1000) :
    ∀ (n k j : Nat), n + j = 35 → n + 17 ≤ k → ots_Sign.l0 k a s l D (col (sigG a s l D) j) (j : Int) = some (joined (sigG a s l D) 35, 0)
  | 0, k + 1, j, hj, hk => by
    rw [ots_Sign.l0, if_neg (by omega), show j = 35 by omega, ots_join_f _ (sigG_size a s l D) 35 (by decide)]
    rfl
  | n + 1, k + 1, j, hj, hk => by
    have hx := hr j (by omega)
    rw [ots_Sign.l0, if_pos (by omega), if_pos (by omega), if_pos (by omega), ots_secret_f s l j hs, Option.bind_some, ots_walk_f a l j 0 (rd D j) _ k (by omega) ha (by omega) hx.1 hx.2 (by rw [secret_size]; omega), Option.bind_some]
    rw [show (rd D (j : Int) - 0).toNat = (rd D (j : Int)).toNat by rw [Int.sub_zero]]
    change (if (col (sigG a s l D) j).length < 8796093022208 then ots_Sign.l0 k a s l D (col (sigG a s l D) j ++ [sigG a s l D j]) (wrap64 (j + 1)) else none) = _
    rw [if_pos (by rw [col_len]; omega), ← col_succ, w64 _ (by omega) (by omega)]
    exact ots_sign_l a s l D hD hr ha hs n k (j + 1) (by omega) (by omega)
theorem ots_sign_f (a s : ByteArray) (l : Int) (d : ByteArray) (k : Nat) (hk : 60 ≤ k) : ots_Sign.f k a s l d = some (signR a s l d) := by
  unfold ots_Sign.f signR
  rw [ots_seed_f, Option.bind_some]
  by_cases hc : chk a s l = 0
  · have hz := chk_size hc
    rw [if_pos hc, if_pos hc, ots_digits_f, Option.bind_some]
    by_cases hd : d.size = 16
    · rw [if_pos hd, if_pos rfl, if_pos hd]
      exact ots_sign_l a s l (digits (bytesOf d)) (digits_len _ (by rw [bytesOf_length, hd])) (digits_range d hd) (by omega) (by omega) 35 k 0 (by omega) (by omega)
    · rw [if_neg hd, if_neg (by decide), if_neg hd]
  · rw [if_neg hc, if_neg hc]
/-- What is signed recovers the public key's chain ends. -/
theorem rec_sig (a s : ByteArray) (l : Int) (D : List Int) (hr : ∀ j : Nat, j < 35 → 0 ≤ rd D j ∧ rd D j ≤ 15) (j : Nat) (hj : j < 35) : recG a l D (joined (sigG a s l D) 35) j = pubG a s l j := by
  have hx := hr j hj
  unfold recG pubG
  rw [if_pos hj, joined_piece _ (sigG_size a s l D) j 35 hj]
  unfold sigG
  have e : (15 : Nat) = (rd D (j : Int)).toNat + (15 - rd D (j : Int)).toNat := by omega
  conv => rhs; rw [e]
  rw [wk_add]
  congr 1
  omega
theorem joined_congr (g g' : Nat → ByteArray) (n : Nat) (h : ∀ j, j < n → g j = g' j) : joined g n = joined g' n := by
  unfold joined col
  rw [List.map_congr_left fun j hj => h j (List.mem_range.1 hj)]
theorem back (a s : ByteArray) (l : Int) (d : ByteArray) (hc : chk a s l = 0) (hd : d.size = 16) : recR a l d (signR a s l d).1 = pubR a s l := by
  have hz := chk_size hc
  have hA : chkA a l = 0 := by
    have := hc
    unfold chk at this
    rw [if_pos hz] at this
    unfold chkA
    rw [if_pos hz.1]
    exact this
  unfold recR pubR signR
  rw [if_pos hA, if_pos hd, if_pos hc, if_pos hd, if_pos hc, if_pos (joined_size _ (sigG_size a s l _) 35)]
  rw [joined_congr _ _ 35 (rec_sig a s l _ (digits_range d hd))]
end Go.Proofs.Ytilehfdplgciiaa.Plain
