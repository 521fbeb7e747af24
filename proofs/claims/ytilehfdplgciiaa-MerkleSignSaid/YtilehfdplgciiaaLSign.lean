import Derived.Test.YtilehfdplgciiaaRSign
/-! certpathlaw12.MerkleSign, walked. -/
namespace Go.Proofs.Ytilehfdplgciiaa.Hand
open Go.RowKit Go.Proofs.YtilehfdplgciiaaW.PrintWords Go.Proofs.Ytilehfdplgciiaa.PLM Go.Proofs.Ytilehfdplgciiaa.Plain
set_option linter.unusedVariables false
attribute [local go_sem ↓] Go.wp_at_zero Go.wp_at_succ

set_option maxHeartbeats 4000000 in
set_option maxRecDepth 100000 in
theorem merkleSign_walk (w : World) (k : Int) (hk0 : 0 ≤ k) (hk1 : k ≤ 255) (ht : Int) (hh0 : 0 ≤ ht) (hh1 : ht ≤ 255) (lf0 : Int) (hl0 : 0 ≤ lf0) (hl1 : lf0 ≤ 255) (m : ByteArray) (hmz : m.size ≤ 140737488351232) :
    Calls Try.prog 13 #[.int .u8 k, .int .u8 ht, .int .u8 lf0, .string m] w fun e w' => e = .returned (.bool true) ∧ Below w.heap.size w w' := by
  by_cases hm3 : m.size ≤ 300
  · obtain ⟨h, hh⟩ : ∃ h : Nat, ht % 3 = (h : Int) := ⟨(ht % 3).toNat, by omega⟩
    have h8 : h ≤ 8 := by omega
    obtain ⟨N, hN⟩ : ∃ N, N = 2 ^ h := ⟨_, rfl⟩
    have hNp : 0 < N := by rw [hN]; exact Nat.pow_pos (by decide)
    have hN8 : N ≤ 256 := by rw [hN]; exact pow_le8 h8
    have hpw : wrap64 ((2 : Int) ^ h) = (N : Int) := by rw [hN]; exact pow_w h h8
    have hpw2 : IntKind.i64.wrap ((2 : Int) ^ h) = (N : Int) := by rw [← hpw]; exact (Go.Proofs.YtilehfdplgciiaaW.PrintLast.i64_w _)
    have hwk : IntKind.i64.wrap k = k := IntWalk.i64_in _ (by omega)
    have hwl : IntKind.i64.wrap lf0 = lf0 := IntWalk.i64_in _ (by omega)
    have hnp : (0 : Int) < (N : Int) := by omega
    have hn0 : ((N : Int) == 0) = false := by simp; omega
    have hnz : ¬ N = 0 := by omega
    obtain ⟨lf, hlf⟩ : ∃ lf : Nat, (lf : Int) = lf0 % (N : Int) := ⟨(lf0 % (N : Int)).toNat, Int.toNat_of_nonneg (Int.emod_nonneg _ (by omega))⟩
    have hlN : lf < 2 ^ h := by
      have := Int.emod_lt_of_pos lf0 hnp
      omega
    have hrem : lf0 % (N : Int) = (lf : Int) := hlf.symm
    have htm : Int.tmod lf0 (N : Int) = (lf : Int) := by rw [Int.tmod_eq_emod_of_nonneg hl0]; exact hrem
    have hwf : IntKind.i64.wrap (lf : Int) = (lf : Int) := IntWalk.i64_in _ (by omega)
    have hsd := fun W => seed_any k W
    have hgen := fun W => gen_any W (seed k) h (seed_size k) h8
    have hsign := fun W g (t : TS W g (seed k) h) => sign_in W g (seed k) h lf m t (seed_size k) h8 hlN (by omega)
    have htree := fun W => rtree_any W k h h8
    have hrs := fun W v S (hv : Lv W S v (levels (seed k) h)) => rsign_in W (seed k) h lf m v S hv (seed_size k) h8 hlN (by omega)
    have hz := sigL_size (seed k) h lf m h8 (seed_size k) hlN h (Nat.le_refl _)
    have hlo := leaf_own (seed k) h lf m (by omega)
    have hleaf := fun W => leaf_long (sigR (seed k) h lf m) (by show 4 ≤ (sigL (seed k) h lf m h).size; omega) (by show (sigL (seed k) h lf m h).size ≤ _; omega) W
    simp only [hlo] at hleaf
    clear hz hlo hN hlf hlN
    generalize sigR (seed k) h lf m = sg at *
    generalize levels (seed k) h = LL at *
    generalize nameOf (seed k) = id at *
    generalize seed k = s at *
    have hsgb := (bool_of (a := sg) (b := sg)).1 rfl
    obtain ⟨hsg1, hsg2⟩ := hsgb
    have HSD := Lib.hid hsd
    have HGEN := Lib.hid hgen
    have HSIGN := Lib.hid hsign
    have HTREE := Lib.hid htree
    have HRS := Lib.hid hrs
    have HLEAF := Lib.hid hleaf
    clear hsd hgen hsign htree hrs hleaf
    go_enter Try.func13, Try.ntmps13
    go_upto_region 8 with (first | (go_at_call 28; refine (HSD.out _).mono ?_; rintro e w2 ⟨rfl, hb2⟩) | (go_at_call 40; refine (HGEN.out _).mono ?_; rintro e w3 ⟨g, rfl, ht3, hg3, hb3⟩) | (go_at_call 47; refine (HSIGN.out _ g ht3).mono ?_; rintro e w4 ⟨rfl, ht4, hk4⟩))
    have HB4 := Lib.hid (hk4.below_at (hb2.trans (hb3.mono hb2.size)) (Nat.le_trans hb2.size hg3))
    clear hb2 hb3 ht3 hg3 ht4 hk4
    go_region_held3 (fun w' => True) (first | trivial | go_keep) ((first
      | (go_at_call 44; refine (HTREE.out _).mono ?_; rintro e w6 ⟨v, rfl, hL6, hb6⟩; have HB6 := Lib.hid ((below_drew HB4.out).trans (hb6.mono HB4.out.size)); have HL6 := Lib.hid hL6; clear hL6 hb6)
      | (go_at_call 50; refine (HRS.out _ v _ HL6.out).mono ?_; rintro e w7 ⟨rfl, hb7⟩; have HB7 := Lib.hid (HB6.out.trans (hb7.mono HB6.out.size)); clear hb7)))
    go_wp2_with (first | (go_at_call 51; refine (HLEAF.out _).mono ?_; rintro e w8 ⟨rfl, hb8⟩) | (go_at_call 41; refine (awake12 _).mono ?_; rintro e w9 ⟨rfl, hb9⟩))
    go_ret
    exact ⟨rfl, (HB7.out.trans (hb8.mono HB7.out.size)).trans (hb9.mono (Nat.le_trans HB7.out.size hb8.size))⟩
  · have hb : 300 < m.size := by omega
    clear hm3
    go_enter Try.func13, Try.ntmps13
    go_wp2_with (go_at_call 41; refine (awake12 _).mono ?_; rintro e w9 ⟨rfl, hb9⟩)
    go_ret
    exact ⟨rfl, hb9⟩
end Go.Proofs.Ytilehfdplgciiaa.Hand
