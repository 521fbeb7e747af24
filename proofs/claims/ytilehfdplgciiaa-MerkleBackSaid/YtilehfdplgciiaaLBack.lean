import Derived.Test.YtilehfdplgciiaaVer
import Derived.Test.YtilehfdplgciiaaWMore
/-! certpathlaw12.MerkleBack, walked. -/
namespace Go.Proofs.Ytilehfdplgciiaa.Hand
open Go.RowKit Go.Proofs.YtilehfdplgciiaaW.PrintWords Go.Proofs.Ytilehfdplgciiaa.PLM Go.Proofs.Ytilehfdplgciiaa.Plain Go.Proofs.YtilehfdplgciiaaW.PrintMore
set_option linter.unusedVariables false
attribute [local go_sem ↓] Go.wp_at_zero Go.wp_at_succ
attribute [local go_sem] max2_int min2_int max_two min_two

theorem few_loop (l : List ByteArray) (hl : l.length ≤ 8) : ∀ (n k j : Nat), n + j = l.length → n + 1 ≤ k → ∃ b : Bool, certpathmade_Few.l0 k 100 l (l.length : Int) (j : Int) = some b ∧ (b = true → ∀ i, j ≤ i → i < l.length → (rdOf ByteArray.empty l (i : Int)).size ≤ 100)
  | 0, k + 1, j, hj, hk => ⟨true, by rw [certpathmade_Few.l0, if_neg (by omega)], fun _ i h1 h2 => by omega⟩
  | n + 1, k + 1, j, hj, hk => by
    rw [certpathmade_Few.l0, if_pos (by omega), if_pos (by omega), if_pos (by omega)]
    by_cases h : ((rdOf ByteArray.empty l (j : Int)).size : Int) > 100
    · exact ⟨false, by rw [if_pos h], fun e => by cases e⟩
    · obtain ⟨b, e1, e2⟩ := few_loop l hl n k (j + 1) (by omega) (by omega)
      refine ⟨b, ?_, fun hb i h1 h2 => ?_⟩
      · rw [if_neg h, w64 _ (by omega) (by omega)]
        exact e1
      · rcases Nat.lt_or_ge j i with h3 | h3
        · exact e2 hb i h3 h2
        · obtain rfl : i = j := by omega
          omega
theorem few_any (l : List ByteArray) : ∃ b : Bool, (b = true → l.length ≤ 8 ∧ ∀ i, i < l.length → (rdOf ByteArray.empty l (i : Int)).size ≤ 100) ∧
    ∀ (A : Option Addr) (c : Nat) (W : World), Kd.C Kd.string W A l.length l → l.length ≤ c → Calls Try.prog 55 #[.slice A l.length c, .int .i64 8, .int .i64 100] W fun e w' => e = .returned (.bool b) ∧ Below W.heap.size W w' := by
  by_cases h : (l.length : Int) > 8
  · refine ⟨false, fun e => by (cases e), fun A c W hR hc => (certpathmade_Few.calls 10 A c l 8 100 false W hR hc (by unfold certpathmade_Few.f; rw [if_pos h])).mono ?_⟩
    rintro e w' ⟨he, hd⟩
    exact ⟨he, hd.below⟩
  · obtain ⟨b, e1, e2⟩ := few_loop l (by omega) l.length 10 0 (by omega) (by omega)
    refine ⟨b, fun hb => ⟨by omega, fun i hi => e2 hb i (Nat.zero_le _) hi⟩, fun A c W hR hc => (certpathmade_Few.calls 10 A c l 8 100 b W hR hc (by unfold certpathmade_Few.f; rw [if_neg h]; exact e1)).mono ?_⟩
    rintro e w' ⟨he, hd⟩
    exact ⟨he, hd.below⟩
set_option maxHeartbeats 4000000 in
set_option maxRecDepth 100000 in
theorem merkleBack_walk (w : World) (k : Int) (hk0 : 0 ≤ k) (hk1 : k ≤ 255) (ht : Int) (hh0 : 0 ≤ ht) (hh1 : ht ≤ 255) (A : Option Addr) (c : Nat) (l : List ByteArray) (hc : l.length ≤ c) (hC : Kd.C Kd.string w A l.length l) :
    Calls Try.prog 16 #[.int .u8 k, .int .u8 ht, .slice A l.length c] w fun e w' => e = .returned (.bool true) ∧ Below w.heap.size w w' := by
  obtain ⟨b, hb, hfew⟩ := few_any l
  have hfew := fun W h => hfew A c W h hc
  cases b with
  | false =>
    go_enter Try.func16, Try.ntmps16
    go_wp2_with (first | (go_at_call 55; refine (hfew _ hC).mono ?_; rintro e w1 ⟨rfl, hb1⟩) | (go_at_call 41; refine (awake12 _).mono ?_; rintro e w2 ⟨rfl, hb2⟩))
    go_ret
    exact ⟨rfl, hb1.trans (hb2.mono hb1.size)⟩
  | true =>
    obtain ⟨hl8, hsz⟩ := hb rfl
    have HSZ := Lib.hid hsz
    have HC := Lib.hid hC
    have hs := seed_size k
    obtain ⟨h, hh⟩ : ∃ h : Nat, (h : Int) = ht % 3 := ⟨(ht % 3).toNat, by omega⟩
    have h8 : h ≤ 8 := by omega
    have HH := Lib.hid hh
    have HS := Lib.hid hs
    clear hsz hC hs hh hb
    have hgen : ∀ W : World, Calls Try.prog 40 #[.string (seed k), .int .i64 (ht % 3)] W fun e w' => ∃ g : Nat, e = .returned (.tuple #[.pointer (some ⟨g, 0, none⟩), .int .i64 0]) ∧ TS w' g (seed k) h ∧ W.heap.size ≤ g ∧ Below W.heap.size W w' := fun W => by
      rw [← HH.out]
      exact gen_any W (seed k) h HS.out h8
    go_enter Try.func16, Try.ntmps16
    go_wp2_with (first | (go_at_call 55; refine (hfew _ HC.out).mono ?_; rintro e w1 ⟨rfl, hb1⟩) | (go_at_call 28; refine (seed_any k _).mono ?_; rintro e w2 ⟨rfl, hb2⟩) | (go_at_call 40; refine (hgen _).mono ?_; rintro e w3 ⟨g, rfl, ht3, hg3, hb3⟩))
    have hB3 := (hb1.trans (hb2.mono hb1.size)).trans (hb3.mono (Nat.le_trans hb1.size hb2.size))
    have hgw : w.heap.size ≤ g := by have := hb1.size; have := hb2.size; omega
    have HB3 := Lib.hid hB3
    have HT3 := Lib.hid ht3
    have hpw : 0 < 2 ^ h := Nat.pow_pos (by decide)
    have hpw2 := pow_le8 h8
    obtain ⟨N, hN⟩ : ∃ N, N = 2 ^ h := ⟨_, rfl⟩
    have HN := Lib.hid hN
    have hlv : ∀ (W : World), TS W g (seed k) h → Calls Try.prog 45 #[.pointer (some ⟨g, 0, none⟩)] W fun e w' => e = .returned (.int .i64 (N : Int)) ∧ W = w' := fun W t => by
      rw [HN.out]
      exact t.leaves HS.out h8
    rw [← hN] at hpw hpw2
    clear hB3 hb1 hb2 hb3 ht3 hg3 hgen hfew hN
    have n1 : ¬ ((N : Int) < 1) := by omega
    have n2 : (0 : Int) < (N : Int) := by omega
    go_loopw [9, 10, 11, 12, 13, 14, 15, 38] (fun _ _ _ _ _ _ _ s38 wr => ∃ j : Nat, j ≤ l.length ∧ s38 = .int .i64 j ∧ TS wr g (seed k) h ∧ Below w.heap.size w wr) (fun _ _ _ _ _ _ _ s38 _ => (l.length - intOf s38).toNat)
    case atStart => exact ⟨0, Nat.zero_le _, rfl, HT3.out, HB3.out⟩
    case round =>
      obtain ⟨j, hj, rfl, hT, hB⟩ := hrel
      by_cases hlt : j < l.length
      · obtain ⟨ad, ha, hcell⟩ := Kd.at_string (Kd.C_below HC.out hB) (j : Int) (by omega) (by omega)
        subst ha
        have hmz := HSZ.out j hlt
        generalize rdOf ByteArray.empty l (j : Int) = m at *
        rw [Int.toNat_natCast] at hcell
        have hm : m.size ≤ 1000 := by omega
        have q0 : (j : Int) < l.length := by omega
        obtain ⟨lf, hlf⟩ : ∃ lf : Nat, lf = j % N := ⟨_, rfl⟩
        have hlN : lf < N := by rw [hlf]; exact Nat.mod_lt _ hpw
        have hrem : (j : Int) % (N : Int) = (lf : Int) := by rw [hlf]; omega
        have hln : lf < 2 ^ h := by rw [← HN.out]; exact hlN
        have HL := Lib.hid hln
        have HT := Lib.hid hT
        have HB := Lib.hid hB
        clear hln hT hB hlf hmz
        go_upto_region 11 with (first | (go_at_call 45; refine (hlv _ HT.out).mono ?_; rintro e w' ⟨rfl, rfl⟩) | (go_at_call 47; refine (sign_in _ g (seed k) h lf m HT.out HS.out h8 HL.out hm).mono ?_; rintro e w5 ⟨rfl, ht5, hk5⟩; have HT5 := Lib.hid ht5.choose_spec.ts; have HB5 := Lib.hid (hk5.below_at HB.out hgw); clear ht5 hk5))
        have heq := (bool_of (a := sigR (seed k) h lf m) (b := sigR (seed k) h lf m)).1 rfl
        obtain ⟨heq1, heq2⟩ := heq
        go_wp2_with (first | (go_at_call 47; refine (sign_in _ g (seed k) h lf m HT5.out HS.out h8 HL.out hm).mono ?_; rintro e w6 ⟨rfl, ht6, hk6⟩; have HT6 := Lib.hid ht6.choose_spec.ts; have HB6 := Lib.hid (hk6.below_at HB5.out hgw); clear ht6 hk6) | (go_at_call 42; refine (key_lit _ g (seed k) h HT6.out HS.out h8).mono ?_; rintro e w7 ⟨rfl, ht7, hk7⟩; have HT7 := Lib.hid ht7.choose_spec.ts; have HB7 := Lib.hid (hk7.below_at HB6.out hgw); clear ht7 hk7) | (go_at_call 52; refine (ver_true (seed k) h lf m h8 HS.out HL.out hm _).mono ?_; rintro e w8 ⟨rfl, hb8⟩))
        go_roundw
        case rel => exact ⟨j + 1, by omega, by go_num, HT7.out.below hb8, HB7.out.trans (hb8.mono HB7.out.size)⟩
        case measure => simp [intOf]; omega
      · have hj2 : j = l.length := by omega
        subst hj2
        have HB := Lib.hid hB
        clear hB hT
        go_wp2_with (go_at_call 41; refine (awake12 _).mono ?_; rintro e w9 ⟨rfl, hb9⟩)
        go_ret
        exact ⟨rfl, HB.out.trans (hb9.mono HB.out.size)⟩
end Go.Proofs.Ytilehfdplgciiaa.Hand
