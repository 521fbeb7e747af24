import Derived.Test.YtilehfdplgciiaaPuA
/-! Digits, signatures and what they recover, in plain words. -/
namespace Go.Proofs.Ytilehfdplgciiaa.Plain
open Go.RowKit Go.Proofs.Ytilehfdplgciiaa.PL11 Go.Proofs.YtilehfdplgciiaaW.PrintWords Go.Proofs.YtilehfdplgciiaaW.PrintLast
open Hand (cat sha outBytes comp IV digits nibs short tail3 all16 nib2 lack)
set_option linter.unusedVariables false

/-! ### digits -/
theorem rd_mem (xs : List Int) (j : Nat) (h : j < xs.length) : rd xs (j : Int) ∈ xs := by
  simp [rd, h]
theorem short_bounds (b : List Int) (h : ∀ x ∈ b, 0 ≤ x ∧ x < 256) : 0 ≤ short b ∧ short b ≤ 30 * b.length := by
  unfold short
  induction b with
  | nil => simp
  | cons x t ih =>
    have h1 := ih (fun y hy => h y (List.mem_cons_of_mem _ hy))
    have h2 := h x List.mem_cons_self
    rw [List.map_cons, List.sum_cons, List.length_cons, show lack x = 15 - x / 16 + 15 - x % 16 from rfl]
    generalize (t.map lack).sum = z at *
    omega
theorem nibs_range (b : List Int) (h : ∀ x ∈ b, 0 ≤ x ∧ x < 256) : ∀ x ∈ nibs b, 0 ≤ x ∧ x ≤ 15 := by
  intro y hy
  unfold nibs at hy
  obtain ⟨z, hz, hy⟩ := List.mem_flatten.1 hy
  obtain ⟨x, hx, rfl⟩ := List.mem_map.1 hz
  have := h x hx
  simp only [nib2, List.mem_cons, List.not_mem_nil, or_false] at hy
  rcases hy with rfl | rfl <;> omega
theorem digits_len (b : List Int) (h : b.length = 16) : (digits b).length = 35 := by
  unfold digits
  rw [List.length_append, Hand.nibs_len, h]
  rfl
theorem digits_range (d : ByteArray) (h : d.size = 16) : ∀ j : Nat, j < 35 → 0 ≤ rd (digits (bytesOf d)) (j : Int) ∧ rd (digits (bytesOf d)) (j : Int) ≤ 15 := by
  intro j hj
  have hl := digits_len (bytesOf d) (by rw [bytesOf_length, h])
  have hm := rd_mem (digits (bytesOf d)) j (by omega)
  generalize rd (digits (bytesOf d)) (j : Int) = x at hm ⊢
  unfold digits at hm
  rcases List.mem_append.1 hm with hm | hm
  · exact nibs_range _ (bytesOf_range d) x hm
  · have hs := short_bounds (bytesOf d) (bytesOf_range d)
    rw [bytesOf_length, h] at hs
    simp only [tail3, List.mem_cons, List.not_mem_nil, or_false] at hm
    rcases hm with rfl | rfl | rfl <;> omega
theorem ots_digits_f (d : ByteArray) : Given.ots_Digits.f d = some (if d.size = 16 then (digits (bytesOf d), 0) else ([], 7)) := by
  unfold Given.ots_Digits.f Hand.ots_Digits.f
  split <;> rfl
theorem ref_digits_l (d : ByteArray) (hd : d.size = 16) : ∀ (n k j : Nat), n + j = 16 → n + 1 ≤ k → certpathref11_Digits.l0 k d (nibs ((bytesOf d).take j)) (short ((bytesOf d).take j)) (j : Int) = some (digits (bytesOf d), 0)
  | 0, k + 1, j, hj, hk => by
    have hbl : (bytesOf d).length = 16 := by rw [bytesOf_length, hd]
    rw [certpathref11_Digits.l0, if_neg (by omega), List.take_of_length_le (by omega)]
    have hs := short_bounds (bytesOf d) (bytesOf_range d)
    rw [hbl] at hs
    have hd : digits (bytesOf d) = nibs (bytesOf d) ++ tail3 (short (bytesOf d)) := rfl
    have hn := Hand.nibs_len (bytesOf d)
    rw [hd]
    generalize short (bytesOf d) = s at *
    have e1 : wrap64 (Int.tdiv s 256) = s / 256 := by rw [Int.tdiv_eq_ediv_of_nonneg (by omega)]; exact w64 _ (by omega) (by omega)
    have e2 : Int.tmod (wrap64 (Int.tdiv s 16)) 16 = s / 16 % 16 := by rw [Int.tdiv_eq_ediv_of_nonneg (by omega), w64 _ (by omega) (by omega), Int.tmod_eq_emod_of_nonneg (by omega)]
    have e3 : Int.tmod s 16 = s % 16 := Int.tmod_eq_emod_of_nonneg (by omega)
    rw [e1, e2, e3, Option.bind_some, if_pos (by rw [hn, hbl]; simp)]
    rfl
  | n + 1, k + 1, j, hj, hk => by
    have hbl : (bytesOf d).length = 16 := by rw [bytesOf_length, hd]
    have hx := bytesOf_range d _ (rd_mem (bytesOf d) j (by omega))
    have hnt := Hand.nibs_step (bytesOf d) j (by omega)
    have hst := Hand.short_step (bytesOf d) j (by omega)
    have hnl : (nibs ((bytesOf d).take j)).length ≤ 32 := by rw [Hand.nibs_len, List.length_take]; omega
    have hs := short_bounds ((bytesOf d).take j) (fun x hx => bytesOf_range d x (List.mem_of_mem_take hx))
    rw [List.length_take] at hs
    rw [certpathref11_Digits.l0, if_pos (by omega), if_pos (by omega), ← rd_bytesOf]
    have ih := ref_digits_l d hd n k (j + 1) (by omega) (by omega)
    rw [← hnt, ← hst] at ih
    generalize rd (bytesOf d) (j : Int) = x at *
    generalize nibs ((bytesOf d).take j) = xs at *
    generalize short ((bytesOf d).take j) = s at *
    unfold lack at ih
    have e1 : (Int.tdiv x 16) % 256 = x / 16 := by rw [Int.tdiv_eq_ediv_of_nonneg (by omega)]; omega
    have e2 : wrap64 (Int.tmod x 16) = x % 16 := by rw [Int.tmod_eq_emod_of_nonneg (by omega)]; exact w64 _ (by omega) (by omega)
    rw [e1, e2, Option.bind_some, if_pos (by simp; omega), w64 (30 - x / 16 - x % 16) (by omega) (by omega), w64 _ (by omega) (by omega), w64 _ (by omega) (by omega)]
    rw [show s + (30 - x / 16 - x % 16) = s + (15 - x / 16 + 15 - x % 16) by omega]
    exact ih
theorem ref_digits_f (d : ByteArray) (k : Nat) (hk : 17 ≤ k) : certpathref11_Digits.f k d = some (if d.size = 16 then (digits (bytesOf d), 0) else ([], 7)) := by
  unfold certpathref11_Digits.f
  by_cases h : d.size = 16
  · rw [if_pos (show (d.size : Int) = 16 by omega), if_pos h]
    exact ref_digits_l d h 16 k 0 (by omega) (by omega)
  · rw [if_neg (show ¬ (d.size : Int) = 16 by omega), if_neg h]
/-! ### collected pieces -/
def col (g : Nat → ByteArray) (n : Nat) : List ByteArray := (List.range n).map g
def joined (g : Nat → ByteArray) (n : Nat) : ByteArray := strOfNums (cat (col g n))
theorem col_succ (g : Nat → ByteArray) (n : Nat) : col g (n + 1) = col g n ++ [g n] := by unfold col; rw [List.range_succ, List.map_append]; rfl
theorem col_len (g : Nat → ByteArray) (n : Nat) : (col g n).length = n := by simp [col]
theorem joined_zero (g : Nat → ByteArray) : joined g 0 = ⟨#[]⟩ := rfl
theorem joined_succ (g : Nat → ByteArray) (n : Nat) : joined g (n + 1) = joined g n ++ g n := by
  apply bytesOf_inj
  unfold joined
  rw [Hand.bytesOf_append, bytesOf_cat, bytesOf_cat, col_succ, cat_append, cat_cons, cat_nil, List.append_nil]
theorem all16_append : ∀ (a b : List ByteArray), all16 (a ++ b) = (all16 a && all16 b)
  | [], b => by simp [all16]
  | s :: t, b => by simp [all16, all16_append t b, Bool.and_assoc]
theorem all16_col (g : Nat → ByteArray) (hg : ∀ j, (g j).size = 16) : ∀ n, all16 (col g n) = true
  | 0 => rfl
  | n + 1 => by rw [col_succ, all16_append, all16_col g hg n]; simp [all16, hg n]
theorem joined_size (g : Nat → ByteArray) (hg : ∀ j, (g j).size = 16) : ∀ n, (joined g n).size = 16 * n
  | 0 => rfl
  | n + 1 => by rw [joined_succ, ByteArray.size_append, joined_size g hg n, hg n]; omega
theorem joined_piece (g : Nat → ByteArray) (hg : ∀ j, (g j).size = 16) (j : Nat) : ∀ n, j < n → (joined g n).extract (j * 16) ((j + 1) * 16) = g j := by
  intro n
  induction n with
  | zero => intro h; omega
  | succ n ih =>
    intro hj
    apply bytesOf_inj
    rw [Hand.bytesOf_extract, joined_succ, Hand.bytesOf_append]
    by_cases h : j < n
    · rw [List.drop_append_of_le_length (by rw [bytesOf_length, joined_size g hg]; omega), List.take_append_of_le_length (by rw [List.length_drop, bytesOf_length, joined_size g hg]; omega), ← Hand.bytesOf_extract, ih h]
    · obtain rfl : j = n := by omega
      have hl : j * 16 = (bytesOf (joined g j)).length := by rw [bytesOf_length, joined_size g hg]; omega
      rw [hl, List.drop_left, List.take_of_length_le (by rw [bytesOf_length, hg]; omega)]
/-! ### a public key out of the chains' ends -/
def pub (a : ByteArray) (l : Int) (j : ByteArray) : ByteArray := sh [⟨#[76]⟩, a, b4 l, j]
theorem pub_len (a : ByteArray) (l : Int) (j : ByteArray) : (cat [⟨#[76]⟩, a, b4 l, j]).length = 5 + a.size + j.size := by
  simp only [cat_cons, cat_nil, List.length_append, bytesOf_length, b4_size, List.length_nil]
  show 1 + _ = _
  omega
theorem ots_join_f (g : Nat → ByteArray) (hg : ∀ j, (g j).size = 16) (n : Nat) (hn : n ≤ 1048576) : Given.ots_join.f (col g n) = some (joined g n) := by
  unfold Given.ots_join.f Hand.ots_join.f
  rw [if_pos ⟨all16_col g hg n, by rw [col_len]; exact hn⟩]
  rfl
theorem ots_public_f (a : ByteArray) (l : Int) (g : Nat → ByteArray) (hg : ∀ j, (g j).size = 16) (n : Nat) (hn : n ≤ 1048576) (ha : a.size ≤ 1000) : ots_public.f a l (col g n) = some (pub a l (joined g n)) := by
  unfold ots_public.f
  rw [ots_b4_eq, Option.bind_some, ots_join_f g hg n hn, Option.bind_some, ots_short _ (by rw [pub_len, joined_size g hg]; omega)]
  rfl
/-! ### signing -/
def sigG (a s : ByteArray) (l : Int) (D : List Int) (j : Nat) : ByteArray := wk a l j (rd D j).toNat 0 (secret s l j)
theorem sigG_size (a s : ByteArray) (l : Int) (D : List Int) (j : Nat) : (sigG a s l D j).size = 16 := wk_size _ _ _ _ _ _ (secret_size _ _ _)
theorem ref_sign_l (a s : ByteArray) (l : Int) (D : List Int) (hD : D.length = 35) (hr : ∀ j : Nat, j < 35 → 0 ≤ rd D j ∧ rd D j ≤ 15) (ha : a.size ≤ 1000) (hs : s.size ≤ 1000) :
    ∀ (n k j : Nat), n + j = 35 → n + 17 ≤ k → certpathref11_SignOnce.l0 k a s l D (joined (sigG a s l D) j) 35 (j : Int) = some (joined (sigG a s l D) 35, 0)
  | 0, k + 1, j, hj, hk => by
    rw [certpathref11_SignOnce.l0, if_neg (by omega), show j = 35 by omega]
  | n + 1, k + 1, j, hj, hk => by
    have hx := hr j (by omega)
    rw [certpathref11_SignOnce.l0, if_pos (by omega), if_pos (by omega), if_pos (by omega), ref_secret_f s l j hs, Option.bind_some, ref_walk_f a l j 0 (rd D j) _ k (by omega) ha (by omega) hx.1 hx.2 (by rw [secret_size]; omega), Option.bind_some]
    rw [show (rd D (j : Int) - 0).toNat = (rd D (j : Int)).toNat by rw [Int.sub_zero]]
    change (if (joined (sigG a s l D) j).size + (sigG a s l D j).size ≤ 9223372036854775807 then certpathref11_SignOnce.l0 k a s l D (joined (sigG a s l D) j ++ sigG a s l D j) 35 (wrap64 (j + 1)) else none) = _
    rw [if_pos (by rw [joined_size _ (sigG_size a s l D), sigG_size]; omega), ← joined_succ, w64 _ (by omega) (by omega)]
    exact ref_sign_l a s l D hD hr ha hs n k (j + 1) (by omega) (by omega)
/-- What signing answers. -/
def signR (a s : ByteArray) (l : Int) (d : ByteArray) : ByteArray × Int :=
  if chk a s l = 0 then (if d.size = 16 then (joined (sigG a s l (digits (bytesOf d))) 35, 0) else (⟨#[]⟩, 7)) else (⟨#[]⟩, chk a s l)
theorem chk_size {a s : ByteArray} {l : Int} (h : chk a s l = 0) : a.size = 16 ∧ s.size = 32 := by
  unfold chk at h
  by_cases h1 : a.size = 16 ∧ s.size = 32
  · exact h1
  · rw [if_neg h1] at h
    omega
theorem ref_sign_f (a s : ByteArray) (l : Int) (d : ByteArray) (k : Nat) (hk : 60 ≤ k) : certpathref11_SignOnce.f k a s l d = some (signR a s l d) := by
  unfold certpathref11_SignOnce.f signR
  rw [ref_check_f a s l k (by omega), Option.bind_some]
  by_cases hc : chk a s l = 0
  · rw [if_pos hc, if_pos hc, ref_digits_f d k (by omega), Option.bind_some]
    by_cases hd : d.size = 16
    · rw [if_pos hd, if_pos rfl]
      have hl := digits_len (bytesOf d) (by rw [bytesOf_length, hd])
      have hz := chk_size hc
      have := ref_sign_l a s l (digits (bytesOf d)) hl (digits_range d hd) (by omega) (by omega) 35 k 0 (by omega) (by omega)
      rw [if_pos hd]
      show certpathref11_SignOnce.l0 k a s l (digits (bytesOf d)) ⟨#[]⟩ ((digits (bytesOf d)).length : Int) 0 = _
      rw [hl]
      exact this
    · rw [if_neg hd, if_neg (by decide), if_neg hd]
  · rw [if_neg hc, if_neg hc]
/-! ### recovering -/
def recG (a : ByteArray) (l : Int) (D : List Int) (sg : ByteArray) (j : Nat) : ByteArray := if j < 35 then wk a l j (15 - rd D j).toNat (rd D j) (sg.extract (j * 16) ((j + 1) * 16)) else sh []
theorem recG_size (a : ByteArray) (l : Int) (D : List Int) (sg : ByteArray) (hs : sg.size = 560) (j : Nat) : (recG a l D sg j).size = 16 := by
  unfold recG
  by_cases hj : j < 35
  · rw [if_pos hj]
    exact wk_size _ _ _ _ _ _ (by rw [ByteArray.size_extract]; omega)
  · rw [if_neg hj, sh_size]
theorem ref_rec_l (a : ByteArray) (l : Int) (D : List Int) (sg : ByteArray) (hs : sg.size = 560) (hD : D.length = 35) (hr : ∀ j : Nat, j < 35 → 0 ≤ rd D j ∧ rd D j ≤ 15) (ha : a.size ≤ 1000) :
    ∀ (n k j : Nat), n + j = 35 → n + 17 ≤ k → certpathref11_Recover.l0 k a l sg D (joined (recG a l D sg) j) 35 (j : Int) = some (pub a l (joined (recG a l D sg) 35), 0)
  | 0, k + 1, j, hj, hk => by
    rw [certpathref11_Recover.l0, if_neg (by omega), show j = 35 by omega, ref_b4_eq, Option.bind_some, ref_short _ (by rw [pub_len, joined_size _ (recG_size a l D sg hs)]; omega)]
    rfl
  | n + 1, k + 1, j, hj, hk => by
    have hx := hr j (by omega)
    have e1 : wrap64 ((j : Int) * 16) = ((j * 16 : Nat) : Int) := by rw [w64 _ (by omega) (by omega)]; omega
    have e2 : wrap64 (wrap64 ((j : Int) + 1) * 16) = (((j + 1) * 16 : Nat) : Int) := by rw [w64 ((j : Int) + 1) (by omega) (by omega), w64 _ (by omega) (by omega)]; omega
    have eg : wk a l j (15 - rd D j).toNat (rd D j) (sg.extract (j * 16) ((j + 1) * 16)) = recG a l D sg j := by unfold recG; rw [if_pos (by omega)]
    rw [certpathref11_Recover.l0, if_pos (by omega), if_pos (by omega), if_pos (by omega), e1, e2, if_pos (by omega), if_pos (by omega), if_pos (by omega), Int.toNat_natCast, Int.toNat_natCast,
      ref_walk_f a l j (rd D j) 15 _ k (by omega) ha hx.1 hx.2 (by omega) (by rw [ByteArray.size_extract]; omega), Option.bind_some, eg,
      if_pos (by rw [joined_size _ (recG_size a l D sg hs), recG_size a l D sg hs]; omega), ← joined_succ, w64 _ (by omega) (by omega)]
    exact ref_rec_l a l D sg hs hD hr ha n k (j + 1) (by omega) (by omega)
theorem ots_rec_l (a : ByteArray) (l : Int) (D : List Int) (sg : ByteArray) (hs : sg.size = 560) (hD : D.length = 35) (hr : ∀ j : Nat, j < 35 → 0 ≤ rd D j ∧ rd D j ≤ 15) (ha : a.size ≤ 1000) :
    ∀ (n k j : Nat), n + j = 35 → n + 17 ≤ k → ots_Recover.l0 k a l sg D (col (recG a l D sg) j) (j : Int) = some (pub a l (joined (recG a l D sg) 35), 0)
  | 0, k + 1, j, hj, hk => by
    rw [ots_Recover.l0, if_neg (by omega), show j = 35 by omega, ots_public_f a l _ (recG_size a l D sg hs) 35 (by decide) ha]
    rfl
  | n + 1, k + 1, j, hj, hk => by
    have hx := hr j (by omega)
    have e1 : wrap64 ((j : Int) * 16) = ((j * 16 : Nat) : Int) := by rw [w64 _ (by omega) (by omega)]; omega
    have e2 : wrap64 (wrap64 ((j : Int) + 1) * 16) = (((j + 1) * 16 : Nat) : Int) := by rw [w64 ((j : Int) + 1) (by omega) (by omega), w64 _ (by omega) (by omega)]; omega
    have eg : wk a l j (15 - rd D j).toNat (rd D j) (sg.extract (j * 16) ((j + 1) * 16)) = recG a l D sg j := by unfold recG; rw [if_pos (by omega)]
    rw [ots_Recover.l0, if_pos (by omega), if_pos (by omega), if_pos (by omega), e1, e2, if_pos (by omega), if_pos (by omega), if_pos (by omega), Int.toNat_natCast, Int.toNat_natCast,
      ots_walk_f a l j (rd D j) 15 _ k (by omega) ha hx.1 hx.2 (by omega) (by rw [ByteArray.size_extract]; omega), Option.bind_some, eg,
      if_pos (by rw [col_len]; omega), ← col_succ, w64 _ (by omega) (by omega)]
    exact ots_rec_l a l D sg hs hD hr ha n k (j + 1) (by omega) (by omega)
/-- What recovering answers. -/
def recR (a : ByteArray) (l : Int) (d sg : ByteArray) : ByteArray × Int :=
  if chkA a l = 0 then (if d.size = 16 then (if sg.size = 560 then (pub a l (joined (recG a l (digits (bytesOf d)) sg) 35), 0) else (⟨#[]⟩, 17)) else (⟨#[]⟩, 7)) else (⟨#[]⟩, chkA a l)
theorem chkA_size {a : ByteArray} {l : Int} (h : chkA a l = 0) : a.size = 16 := by
  unfold chkA at h
  by_cases h1 : a.size = 16
  · exact h1
  · rw [if_neg h1] at h
    omega
theorem ots_rec_f (a : ByteArray) (l : Int) (d sg : ByteArray) (k : Nat) (hk : 60 ≤ k) : ots_Recover.f k a l d sg = some (recR a l d sg) := by
  unfold ots_Recover.f recR
  rw [ots_leaf_f, Option.bind_some]
  by_cases hc : chkA a l = 0
  · rw [if_pos hc, if_pos hc, ots_digits_f, Option.bind_some]
    by_cases hd : d.size = 16
    · rw [if_pos hd, if_pos rfl, if_pos hd]
      by_cases hs : sg.size = 560
      · rw [if_pos (show (sg.size : Int) = 560 by omega), if_pos hs]
        have hz := chkA_size hc
        exact ots_rec_l a l (digits (bytesOf d)) sg hs (digits_len _ (by rw [bytesOf_length, hd])) (digits_range d hd) (by omega) 35 k 0 (by omega) (by omega)
      · rw [if_neg (show ¬ (sg.size : Int) = 560 by omega), if_neg hs]
    · rw [if_neg hd, if_neg (by decide), if_neg hd]
  · rw [if_neg hc, if_neg hc]
theorem ref_rec_tail (a : ByteArray) (l : Int) (d sg : ByteArray) (k : Nat) (hk : 60 ≤ k) (ha : a.size = 16) : ((certpathref11_Digits.f k d).bind fun bt211 => (if bt211.2 = 0 then (if (sg.size : Int) = 560 then (certpathref11_Recover.l0 k a l sg bt211.1 (⟨#[]⟩ : ByteArray) (bt211.1.length : Int) 0) else (some ((⟨#[]⟩ : ByteArray), 17))) else (some ((⟨#[]⟩ : ByteArray), bt211.2)))) =
    some (if d.size = 16 then (if sg.size = 560 then (pub a l (joined (recG a l (digits (bytesOf d)) sg) 35), 0) else (⟨#[]⟩, 17)) else (⟨#[]⟩, 7)) := by
  rw [ref_digits_f d k (by omega), Option.bind_some]
  by_cases hd : d.size = 16
  · rw [if_pos hd, if_pos rfl, if_pos hd]
    by_cases hs : sg.size = 560
    · rw [if_pos (show (sg.size : Int) = 560 by omega), if_pos hs]
      have hl := digits_len (bytesOf d) (by rw [bytesOf_length, hd])
      show certpathref11_Recover.l0 k a l sg (digits (bytesOf d)) ⟨#[]⟩ ((digits (bytesOf d)).length : Int) 0 = _
      rw [hl]
      exact ref_rec_l a l (digits (bytesOf d)) sg hs hl (digits_range d hd) (by omega) 35 k 0 (by omega) (by omega)
    · rw [if_neg (show ¬ (sg.size : Int) = 560 by omega), if_neg hs]
  · rw [if_neg hd, if_neg (by decide), if_neg hd]
theorem ref_rec_f (a : ByteArray) (l : Int) (d sg : ByteArray) (k : Nat) (hk : 61 ≤ k) : certpathref11_Recover.f k a l d sg = some (recR a l d sg) := by
  obtain ⟨k, rfl⟩ : ∃ k', k = k' + 1 := ⟨k - 1, by omega⟩
  unfold certpathref11_Recover.f recR chkA
  by_cases h1 : a.size = 16
  · rw [if_pos (show (a.size : Int) = 16 by omega), if_pos h1]
    by_cases h2 : l < 0
    · rw [if_pos h2, if_pos (Or.inl h2), certpathref11_Recover.j0, if_pos rfl, if_neg (by decide)]
    · rw [if_neg h2]
      by_cases h3 : l ≥ 256
      · rw [if_pos (Or.inr h3), if_neg (by decide), certpathref11_Recover.j0, if_pos (by simpa using h3)]
      · rw [if_neg (show ¬ (l < 0 ∨ l ≥ 256) by omega), if_pos rfl, certpathref11_Recover.j0, if_neg (by simp; omega)]
        exact ref_rec_tail a l d sg k (by omega) h1
  · rw [if_neg (show ¬ (a.size : Int) = 16 by omega), if_neg h1, if_neg (by decide)]
end Go.Proofs.Ytilehfdplgciiaa.Plain
