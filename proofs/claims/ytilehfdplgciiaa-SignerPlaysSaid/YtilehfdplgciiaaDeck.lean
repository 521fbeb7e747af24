import Derived.Test.YtilehfdplgciiaaPm
import Derived.Test.YtilehfdplgciiaaTr
/-! The deck in memory; signers beside other blocks. -/
namespace Go.Proofs.Ytilehfdplgciiaa.Hand
open Go.RowKit Go.Proofs.YtilehfdplgciiaaW.PrintWords Go.Proofs.Ytilehfdplgciiaa.PLM Go.Proofs.Ytilehfdplgciiaa.Plain
set_option linter.unusedVariables false

/-- A deck whose numbers are l; what was there when w0 began is as it was. -/
def Dk (w0 W : World) (g : Nat) (l : List Int) : Prop := ∃ a : Int, IsS100 w0 W g l a ∧ 0 ≤ a ∧ a ≤ l.length ∧ (l.length : Int) ≤ 17592186044416 ∧ Below w0.heap.size w0 W
theorem Dk.bel {w0 W : World} {g : Nat} {l : List Int} (d : Dk w0 W g l) : Below w0.heap.size w0 W := by
  obtain ⟨_, _, _, _, _, h⟩ := d
  exact h
theorem Dk.below {w0 W W2 : World} {g : Nat} {l : List Int} (d : Dk w0 W g l) (hb : Below W.heap.size W W2) : Dk w0 W2 g l := by
  obtain ⟨a, h1, h2, h3, h4, h5⟩ := d
  exact ⟨a, h1.below hb, h2, h3, h4, h5.trans (hb.mono h5.size)⟩
/-- The deck's block. -/
theorem Dk.blk {w0 W : World} {g : Nat} {l : List Int} (d : Dk w0 W g l) : ∃ cs, W.heap[g]? = some (.cells cs 100 (0, 0)) := by
  obtain ⟨a, ⟨A0, c0, h, _⟩, _⟩ := d
  exact ⟨_, h⟩
theorem Dk.ge {w0 W : World} {g : Nat} {l : List Int} (d : Dk w0 W g l) : w0.heap.size ≤ g := by
  obtain ⟨a, h, _⟩ := d
  exact h.ge
theorem Dk.lt {w0 W : World} {g : Nat} {l : List Int} (d : Dk w0 W g l) : g < W.heap.size := by
  obtain ⟨a, h, _⟩ := d
  exact h.lt
/-- The deck stands behind what changes other blocks alone. -/
theorem Dk.kept {w0 W W2 : World} {g : Nat} {l : List Int} {S : Nat → Prop} (d : Dk w0 W g l) (hk : Kp S W W2) (hg : ¬ S g) (hS : ∀ i, S i → w0.heap.size ≤ i) : Dk w0 W2 g l := by
  obtain ⟨a, ⟨A0, c0, h1, h2, h3⟩, h4, h5, h6, h7⟩ := d
  exact ⟨a, ⟨A0, c0, (hk.block g (blk_lt h1) hg).trans h1, h2, h3⟩, h4, h5, h6, hk.below h7 h7.size hS⟩
theorem kp_of_but {w0 W W2 : World} {g : Nat} (h : Below w0.heap.size w0 W) (h2 : Below w0.heap.size w0 W2) (k : KeepBut W W2 g none) : Kp (fun i => i = g) W W2 :=
  ⟨h2.os.trans h.os.symm, h2.tape.trans h.tape.symm, h2.output.trans h.output.symm, k.1, fun i hi hn => k.2 i hi hn (by simp)⟩
theorem next_f (l : List Int) (a n : Int) (h0 : 0 ≤ a) (h1 : a ≤ l.length) (hl : (l.length : Int) ≤ 17592186044416) (hn : 1 ≤ n) (hn2 : n ≤ 2147483647) :
    ∃ r a' : Int, certpathmade_Deck_Next.f l a n = some (r, a') ∧ 0 ≤ r ∧ r < n ∧ 0 ≤ a' ∧ a' ≤ l.length := by
  unfold certpathmade_Deck_Next.f
  by_cases h : a ≥ (l.length : Int)
  · rw [if_pos h]
    exact ⟨0, a, rfl, by omega, by omega, h0, h1⟩
  · rw [if_neg h]
    have e1 : wrap64 (a + 1) = a + 1 := by unfold wrap64; omega
    have e2 : wrap64 (a + 1 - 1) = a := by unfold wrap64; omega
    rw [e1, e2, if_pos h0, if_pos (by omega), if_neg (by omega)]
    have hb := Int.tmod_lt_of_pos (rd l a) (show 0 < n by omega)
    have hb2 : -n < Int.tmod (rd l a) n := by
      have := Int.lt_tmod_of_pos (rd l a) (show 0 < n by omega)
      omega
    have e3 : wrap64 (Int.tmod (rd l a) n + n) = Int.tmod (rd l a) n + n := by unfold wrap64; omega
    rw [e3]
    have hp : 0 ≤ Int.tmod (rd l a) n + n := by omega
    refine ⟨_, _, rfl, Int.tmod_nonneg _ hp, Int.tmod_lt_of_pos _ (by omega), by omega, by omega⟩
theorem deck_next {w0 W : World} {g : Nat} {l : List Int} (n : Int) (d : Dk w0 W g l) (hn : 1 ≤ n) (hn2 : n ≤ 2147483647) :
    Calls Try.prog 37 #[.pointer (some ⟨g, 0, none⟩), .int .i64 n] W fun e w' => ∃ r : Int, e = .returned (.int .i64 r) ∧ 0 ≤ r ∧ r < n ∧ Dk w0 w' g l ∧ Kp (fun i => i = g) W w' := by
  obtain ⟨a, h1, h2, h3, h4, h5⟩ := d
  obtain ⟨r, a', hf, r0, r1, a0, a1⟩ := next_f l a n h2 h3 h4 hn hn2
  refine (certpathmade_Deck_Next.calls g l a n r a' w0 W h1 h5 hf).mono ?_
  rintro e w' ⟨rfl, hI, hB, hK⟩
  exact ⟨r, rfl, r0, r1, ⟨a', hI, a0, a1, h4, hB⟩, kp_of_but h5 hB hK⟩
theorem deck_left {w0 W : World} {g : Nat} {l : List Int} (d : Dk w0 W g l) :
    Calls Try.prog 64 #[.pointer (some ⟨g, 0, none⟩)] W fun e w' => ∃ b : Bool, e = .returned (.bool b) ∧ Dk w0 w' g l ∧ Kp (fun i => i = g) W w' := by
  obtain ⟨a, h1, h2, h3, h4, h5⟩ := d
  refine (certpathmade_Deck_Left.calls g l a (decide (a < (l.length : Int))) a w0 W h1 h5 rfl).mono ?_
  rintro e w' ⟨rfl, hI, hB, hK⟩
  exact ⟨_, rfl, ⟨a, hI, h2, h3, h4, hB⟩, kp_of_but h5 hB hK⟩
theorem deck_new (w0 W : World) (A : Option Addr) (c : Nat) (l : List Int) (hl : l.length * 8 ≤ 140737488351232) (hc : l.length ≤ c) (hr : Kd.C (Kd.int .i64) w0 A l.length l) (hB : Below w0.heap.size w0 W) :
    Calls Try.prog 25 #[.slice A l.length c] W fun e w' => ∃ g : Nat, e = .returned (.pointer (some ⟨g, 0, none⟩)) ∧ Dk w0 w' g l ∧ Below W.heap.size W w' := by
  refine (certpathmade_New.calls A c l l 0 w0 W hB hr hc rfl).mono ?_
  rintro e w' ⟨g, rfl, h, hb, hb2⟩
  exact ⟨g, rfl, ⟨0, h, by omega, by omega, by omega, hb⟩, hb2⟩
theorem damage_f (l : List Int) (a : Int) (s : ByteArray) (h0 : 0 ≤ a) (h1 : a ≤ l.length) (hl : (l.length : Int) ≤ 17592186044416) (hs : s.size ≤ 100000) :
    ∃ r a', certpathmade_Damage.f l a s = some (r, a') ∧ r.size ≤ s.size + 1 ∧ 0 ≤ a' ∧ a' ≤ l.length := by
  unfold certpathmade_Damage.f
  by_cases hz : s.toList = ([] : List UInt8)
  · rw [if_pos hz]
    exact ⟨s, a, rfl, by omega, h0, h1⟩
  · rw [if_neg hz]
    have hp : 0 < s.size := by
      rw [ByteArray.toList_eq] at hz
      have : s.size = s.data.toList.length := by simp
      rw [this]
      exact List.length_pos_iff.2 hz
    obtain ⟨k, a1, e1, k0, k1, i0, i1⟩ := next_f l a s.size h0 h1 hl (by omega) (by omega)
    obtain ⟨c, a2, e2, c0, c1, j0, j1⟩ := next_f l a1 256 i0 i1 hl (by decide) (by decide)
    obtain ⟨q, a3, e3, q0, q1, n0, n1⟩ := next_f l a2 5 j0 j1 hl (by decide) (by decide)
    rw [e1, Option.bind_some]
    try dsimp only
    rw [e2, Option.bind_some]
    try dsimp only
    rw [Option.bind_some]
    try dsimp only
    rw [e3, Option.bind_some]
    try dsimp only
    have ew : wrap64 (k + 1) = k + 1 := by unfold wrap64; omega
    rw [ew]
    have z1 : (s.extract 0 k.toNat).size = k.toNat := by rw [ByteArray.size_extract]; omega
    have z2 : (s.extract (k + 1).toNat s.size).size = s.size - (k + 1).toNat := by rw [ByteArray.size_extract]; omega
    have z3 : (s.extract k.toNat s.size).size = s.size - k.toNat := by rw [ByteArray.size_extract]; omega
    have z4 : (strOfNums [c % 256]).size = 1 := by rw [strOfNums_size]; rfl
    have kk : k.toNat ≤ s.size := by omega
    have kk1 : (k + 1).toNat ≤ s.size ∧ (k + 1).toNat = k.toNat + 1 := by omega
    have r1 : ((s.extract 0 k.toNat) ++ (strOfNums [c % 256])).size = k.toNat + 1 := by rw [ByteArray.size_append, z1, z4]
    by_cases q_0 : q = 0
    · rw [if_pos q_0, if_pos k0, if_pos (by omega), if_pos (by rw [z1, z4]; omega), if_pos (by omega), if_pos (by omega), if_pos (by rw [r1, z2]; omega)]
      exact ⟨_, _, rfl, by rw [ByteArray.size_append, r1, z2]; omega, n0, n1⟩
    · rw [if_neg q_0]
      by_cases q_1 : q = 1
      · rw [if_pos q_1, if_pos k0, if_pos (by omega), if_pos (by rw [z1, z4]; omega), if_pos (by rw [r1, z3]; omega)]
        exact ⟨_, _, rfl, by rw [ByteArray.size_append, r1, z3]; omega, n0, n1⟩
      · rw [if_neg q_1]
        by_cases q_2 : q = 2
        · rw [if_pos q_2, if_pos k0, if_pos (by omega), if_pos (by omega), if_pos (by omega), if_pos (by rw [z1, z2]; omega)]
          exact ⟨_, _, rfl, by rw [ByteArray.size_append, z1, z2]; omega, n0, n1⟩
        · rw [if_neg q_2]
          by_cases q_3 : q = 3
          · rw [if_pos q_3, if_pos k0, if_pos (by omega)]
            exact ⟨_, _, rfl, by rw [z1]; omega, n0, n1⟩
          · rw [if_neg q_3]
            exact ⟨_, _, rfl, by omega, n0, n1⟩
theorem damage_any {w0 W : World} {g : Nat} {l : List Int} (s : ByteArray) (d : Dk w0 W g l) (hs : s.size ≤ 100000) :
    Calls Try.prog 29 #[.pointer (some ⟨g, 0, none⟩), .string s] W fun e w' => ∃ r : ByteArray, e = .returned (.string r) ∧ r.size ≤ s.size + 1 ∧ Dk w0 w' g l ∧ Kp (fun i => i = g) W w' := by
  obtain ⟨a, h1, h2, h3, h4, h5⟩ := d
  obtain ⟨r, a', hf, hr, a0, a1⟩ := damage_f l a s h2 h3 h4 hs
  refine (certpathmade_Damage.calls g l a s r a' w0 W h1 h5 hf).mono ?_
  rintro e w' ⟨rfl, hI, hB, hK⟩
  exact ⟨r, rfl, hr, ⟨a', hI, a0, a1, h4, hB⟩, kp_of_but h5 hB hK⟩
end Go.Proofs.Ytilehfdplgciiaa.Hand
