import Derived.Test.YtilehfdplgciiaaRKey
import Derived.Test.YtilehfdplgciiaaKeyEq
/-! certpathlaw12.MerkleGenerate, walked. -/
namespace Go.Proofs.Ytilehfdplgciiaa.Hand
open Go.RowKit Go.Proofs.YtilehfdplgciiaaW.PrintWords Go.Proofs.Ytilehfdplgciiaa.PLM Go.Proofs.Ytilehfdplgciiaa.Plain Go.Proofs.YtilehfdplgciiaaW
set_option linter.unusedVariables false
set_option linter.unusedSimpArgs false
attribute [local go_sem ↓] Go.wp_at_zero Go.wp_at_succ

set_option maxHeartbeats 4000000 in
set_option maxRecDepth 100000 in
theorem merkleGenerate_walk (w : World) (k : Int) (hk0 : 0 ≤ k) (hk1 : k ≤ 255) (ht : Int) (hh0 : 0 ≤ ht) (hh1 : ht ≤ 255) :
    Calls Try.prog 11 #[.int .u8 k, .int .u8 ht] w fun e w' => e = .returned (.bool true) ∧ Below w.heap.size w w' := by
  obtain ⟨h, hh⟩ : ∃ h : Nat, ht % 4 = (h : Int) := ⟨(ht % 4).toNat, by omega⟩
  have h8 : h ≤ 8 := by omega
  obtain ⟨N, hN⟩ : ∃ N, N = 2 ^ h := ⟨_, rfl⟩
  have hpw : wrap64 ((2 : Int) ^ h) = (N : Int) := by rw [hN]; exact pow_w h h8
  have hpw2 : IntKind.i64.wrap ((2 : Int) ^ h) = (N : Int) := by rw [← hpw]; exact (Go.Proofs.YtilehfdplgciiaaW.PrintLast.i64_w _)
  have hwk : IntKind.i64.wrap k = k := IntWalk.i64_in _ (by omega)
  have hsd := fun W => seed_any k W
  have hgen := fun W => gen_any W (seed k) h (seed_size k) h8
  have hlv : ∀ (W : World) (g : Nat), TS W g (seed k) h → Calls Try.prog 45 #[.pointer (some ⟨g, 0, none⟩)] W fun e w' => e = .returned (.int .i64 (N : Int)) ∧ W = w' := fun W g t => by
    rw [hN]
    exact t.leaves (seed_size k) h8
  have hkey := fun W g (t : TS W g (seed k) h) => key_lit W g (seed k) h t (seed_size k) h8
  have htree := fun W => rtree_any W k h h8
  have hrk := fun W v S (hv : Lv W S v (levels (seed k) h)) => rkey_any W (seed k) h h8 v S hv
  clear hN
  generalize seed k = s at *
  generalize nameOf s = id at *
  generalize root s h = rt at *
  generalize levels s h = LL at *
  have HSD := Lib.hid hsd
  have HGEN := Lib.hid hgen
  have HLV := Lib.hid hlv
  have HKEY := Lib.hid hkey
  have HTREE := Lib.hid htree
  have HRK := Lib.hid hrk
  clear hsd hgen hlv hkey htree hrk
  go_enter Try.func11, Try.ntmps11
  go_upto_region 5 with (first | (go_at_call 28; refine (HSD.out _).mono ?_; rintro e w2 ⟨rfl, hb2⟩) | (go_at_call 40; refine (HGEN.out _).mono ?_; rintro e w3 ⟨g, rfl, ht3, hg3, hb3⟩))
  have HB3 := Lib.hid (hb2.trans (hb3.mono hb2.size))
  have HT3 := Lib.hid ht3
  have HG := Lib.hid (Nat.le_trans hb2.size hg3)
  clear hb2 hb3 ht3 hg3
  have keq := fun W : World => key_same (h : Int) id rt W
  have hgt := guard_key
  refine PrintLast.start_ (n := 19) (S := fun w' => True) (ds := []) #[false, false, false, false, false, false, false, false, false, false, false, false, false, false, false, false, false, false, false] (by kernel_rfl) rfl rfl trivial (fun hHeld => ?_)
  clear hHeld
  refine PrintLast.one_ (i := 0) (N := some 25) #[true, false, false, false, false, false, false, false, false, false, false, false, false, false, false, false, false, false, false] rfl rfl (by kernel_rfl) (by decide) (fun K hK => ?_)
  refine PrintLast.goes_ Try.func41 (by kernel_rfl) rfl #[] (by rfl) rfl rfl (by (try simp only [List.map_toArray, List.map_cons, List.map_nil]); first | done | rfl) ?_
  refine (awake12 _).mono ?_
  rintro e w4 ⟨rfl, hb4⟩
  refine ⟨_, rfl, ?_⟩
  have HB4 := Lib.hid ((below_drew HB3.out).trans (hb4.mono HB3.out.size))
  have HT4 := Lib.hid ((HT3.out.below (below_drew (Below.refl _ _))).below hb4)
  clear hb4
  refine hK.out _ _ trivial (fun hHeld => ?_)
  clear hHeld hK K
  refine PrintLast.norm_ (a' := ?_) ?_ ?_
  rotate_left
  · show Act.put _ (some 25) _ = _
    simp only [Act.put, List.setIfInBounds_toArray, List.set_cons_zero, List.set_cons_succ, PrintLast.i64_w, PrintLast.i32_w]
    rfl
  refine PrintLast.pure_ (i := 1) (N := some 26) (v := ?_) (a' := ?_) #[true, true, false, false, false, false, false, false, false, false, false, false, false, false, false, false, false, false, false] rfl rfl (by kernel_rfl) (fun _ _ _ h => h) (Or.inl ⟨by rfl, ?_⟩) ?_ ?_
  rotate_left
  · intro w'
    go_simp
    with_reducible rfl
  rotate_left
  · simp only [Act.put, List.setIfInBounds_toArray, List.set_cons_zero, List.set_cons_succ, PrintLast.i64_w, PrintLast.i32_w]
    rfl
  refine PrintLast.pure_ (i := 2) (N := some 27) (v := ?_) (a' := ?_) #[true, true, true, false, false, false, false, false, false, false, false, false, false, false, false, false, false, false, false] rfl rfl (by kernel_rfl) (fun _ _ _ h => h) (Or.inl ⟨by rfl, ?_⟩) ?_ ?_
  rotate_left
  · intro w'
    go_simp
    with_reducible rfl
  rotate_left
  · simp only [Act.put, List.setIfInBounds_toArray, List.set_cons_zero, List.set_cons_succ, PrintLast.i64_w, PrintLast.i32_w]
    rfl
  refine PrintLast.pure_ (i := 4) (N := some 29) (v := ?_) (a' := ?_) #[true, true, true, false, true, false, false, false, false, false, false, false, false, false, false, false, false, false, false] rfl rfl (by kernel_rfl) (fun _ _ _ h => h) (Or.inl ⟨by rfl, ?_⟩) ?_ ?_
  rotate_left
  · intro w'
    go_simp
    with_reducible rfl
  rotate_left
  · simp only [Act.put, List.setIfInBounds_toArray, List.set_cons_zero, List.set_cons_succ, PrintLast.i64_w, PrintLast.i32_w]
    rfl
  refine PrintLast.pure_ (i := 5) (N := some 30) (v := ?_) (a' := ?_) #[true, true, true, false, true, true, false, false, false, false, false, false, false, false, false, false, false, false, false] rfl rfl (by kernel_rfl) (fun _ _ _ h => h) (Or.inl ⟨by rfl, ?_⟩) ?_ ?_
  rotate_left
  · intro w'
    go_simp
    with_reducible rfl
  rotate_left
  · simp only [Act.put, List.setIfInBounds_toArray, List.set_cons_zero, List.set_cons_succ, PrintLast.i64_w, PrintLast.i32_w]
    rfl
  refine PrintLast.pure_ (i := 6) (N := some 31) (v := ?_) (a' := ?_) #[true, true, true, false, true, true, true, false, false, false, false, false, false, false, false, false, false, false, false] rfl rfl (by kernel_rfl) (fun _ _ _ h => h) (Or.inl ⟨by rfl, ?_⟩) ?_ ?_
  rotate_left
  · intro w'
    go_simp
    with_reducible rfl
  rotate_left
  · simp only [Act.put, List.setIfInBounds_toArray, List.set_cons_zero, List.set_cons_succ, PrintLast.i64_w, PrintLast.i32_w]
    rfl
  refine PrintLast.one_ (i := 3) (N := some 28) #[true, true, true, true, true, true, true, false, false, false, false, false, false, false, false, false, false, false, false] rfl rfl (by kernel_rfl) (by decide) (fun K hK => ?_)
  refine PrintLast.goes_ Try.func42 (by kernel_rfl) rfl #[.pointer (some ⟨g, 0, none⟩)] (by rfl) rfl rfl (by (try simp only [List.map_toArray, List.map_cons, List.map_nil]); first | done | rfl) ?_
  refine (HKEY.out _ g HT4.out).mono ?_
  rintro e w5 ⟨rfl, ht5, hk5⟩
  refine ⟨_, rfl, ?_⟩
  have HT5 := Lib.hid ht5.choose_spec.ts
  have HB5 := Lib.hid (hk5.below_at HB4.out HG.out)
  clear ht5 hk5
  refine hK.out _ _ trivial (fun hHeld => ?_)
  clear hHeld hK K
  refine PrintLast.norm_ (a' := ?_) ?_ ?_
  rotate_left
  · show Act.put _ (some 28) _ = _
    simp only [Act.put, List.setIfInBounds_toArray, List.set_cons_zero, List.set_cons_succ, PrintLast.i64_w, PrintLast.i32_w]
    rfl
  refine PrintLast.one_ (i := 7) (N := some 32) #[true, true, true, true, true, true, true, true, false, false, false, false, false, false, false, false, false, false, false] rfl rfl (by kernel_rfl) (by decide) (fun K hK => ?_)
  refine PrintLast.goes_ Try.func44 (by kernel_rfl) rfl #[.int .i64 k, .int .i64 h] (by rfl) rfl rfl (by (try simp only [List.map_toArray, List.map_cons, List.map_nil]); first | done | rfl) ?_
  refine (HTREE.out _).mono ?_
  rintro e w6 ⟨v, rfl, hL6, hb6⟩
  refine ⟨_, rfl, ?_⟩
  have HT6 := Lib.hid (HT5.out.below hb6)
  have HB6 := Lib.hid (HB5.out.trans (hb6.mono HB5.out.size))
  have HL6 := Lib.hid hL6
  clear hL6 hb6
  refine hK.out _ _ trivial (fun hHeld => ?_)
  clear hHeld hK K
  refine PrintLast.norm_ (a' := ?_) ?_ ?_
  rotate_left
  · show Act.put _ (some 32) _ = _
    simp only [Act.put, List.setIfInBounds_toArray, List.set_cons_zero, List.set_cons_succ, PrintLast.i64_w, PrintLast.i32_w]
    rfl
  refine PrintLast.one_ (i := 8) (N := some 33) #[true, true, true, true, true, true, true, true, true, false, false, false, false, false, false, false, false, false, false] rfl rfl (by kernel_rfl) (by decide) (fun K hK => ?_)
  refine PrintLast.goes_ Try.func43 (by kernel_rfl) rfl #[.agg #[.string s, .string id, v]] (by rfl) rfl rfl (by (try simp only [List.map_toArray, List.map_cons, List.map_nil]); first | done | rfl) ?_
  refine (HRK.out _ v _ HL6.out).mono ?_
  rintro e w7 ⟨rfl, hb7⟩
  refine ⟨_, rfl, ?_⟩
  have HT7 := Lib.hid (HT6.out.below hb7)
  have HB7 := Lib.hid (HB6.out.trans (hb7.mono HB6.out.size))
  clear hb7
  refine hK.out _ _ trivial (fun hHeld => ?_)
  clear hHeld hK K
  refine PrintLast.norm_ (a' := ?_) ?_ ?_
  rotate_left
  · show Act.put _ (some 33) _ = _
    simp only [Act.put, List.setIfInBounds_toArray, List.set_cons_zero, List.set_cons_succ, PrintLast.i64_w, PrintLast.i32_w]
    rfl
  refine PrintLast.pure_ (i := 9) (N := some 34) (v := ?_) (a' := ?_) #[true, true, true, true, true, true, true, true, true, true, false, false, false, false, false, false, false, false, false] rfl rfl (by kernel_rfl) (fun _ _ _ h => h) (Or.inl ⟨by rfl, ?_⟩) ?_ ?_
  rotate_left
  · intro w'
    go_simp
    with_reducible rfl
  rotate_left
  · simp only [Act.put, List.setIfInBounds_toArray, List.set_cons_zero, List.set_cons_succ, PrintLast.i64_w, PrintLast.i32_w]
    rfl
  refine PrintLast.pure_ (i := 10) (N := some 35) (v := ?_) (a' := ?_) #[true, true, true, true, true, true, true, true, true, true, true, false, false, false, false, false, false, false, false] rfl rfl (by kernel_rfl) (fun _ _ _ h => h) (Or.inl ⟨by rfl, ?_⟩) ?_ ?_
  rotate_left
  · intro w'
    go_simp
    with_reducible rfl
  rotate_left
  · simp only [Act.put, List.setIfInBounds_toArray, List.set_cons_zero, List.set_cons_succ, PrintLast.i64_w, PrintLast.i32_w]
    rfl
  refine PrintLast.pure_ (i := 11) (N := some 36) (v := ?_) (a' := ?_) #[true, true, true, true, true, true, true, true, true, true, true, true, false, false, false, false, false, false, false] rfl rfl (by kernel_rfl) (fun _ _ _ h => h) (Or.inl ⟨by rfl, ?_⟩) ?_ ?_
  rotate_left
  · intro w'
    go_simp
    with_reducible rfl
  rotate_left
  · simp only [Act.put, List.setIfInBounds_toArray, List.set_cons_zero, List.set_cons_succ, PrintLast.i64_w, PrintLast.i32_w]
    rfl
  refine PrintLast.pure_ (i := 12) (N := some 37) (v := ?_) (a' := ?_) #[true, true, true, true, true, true, true, true, true, true, true, true, true, false, false, false, false, false, false] rfl rfl (by kernel_rfl) (fun _ _ _ h => h) (Or.inl ⟨by rfl, ?_⟩) ?_ ?_
  rotate_left
  · intro w'
    go_simp
    with_reducible rfl
  rotate_left
  · simp only [Act.put, List.setIfInBounds_toArray, List.set_cons_zero, List.set_cons_succ, PrintLast.i64_w, PrintLast.i32_w]
    rfl
  refine PrintLast.pure_ (i := 14) (N := some 39) (v := ?_) (a' := ?_) #[true, true, true, true, true, true, true, true, true, true, true, true, true, false, true, false, false, false, false] rfl rfl (by kernel_rfl) (fun _ _ _ h => h) (Or.inl ⟨by rfl, ?_⟩) ?_ ?_
  rotate_left
  · intro w'
    go_simp
    with_reducible rfl
  rotate_left
  · simp only [Act.put, List.setIfInBounds_toArray, List.set_cons_zero, List.set_cons_succ, PrintLast.i64_w, PrintLast.i32_w]
    rfl
  refine PrintLast.pure_ (i := 15) (N := some 40) (v := ?_) (a' := ?_) #[true, true, true, true, true, true, true, true, true, true, true, true, true, false, true, true, false, false, false] rfl rfl (by kernel_rfl) (fun _ _ _ h => h) (Or.inl ⟨by rfl, ?_⟩) ?_ ?_
  rotate_left
  · intro w'
    go_simp
    with_reducible rfl
  rotate_left
  · simp only [Act.put, List.setIfInBounds_toArray, List.set_cons_zero, List.set_cons_succ, PrintLast.i64_w, PrintLast.i32_w]
    rfl
  refine PrintLast.one_ (i := 13) (N := some 38) #[true, true, true, true, true, true, true, true, true, true, true, true, true, true, true, true, false, false, false] rfl rfl (by kernel_rfl) (by decide) (fun K hK => ?_)
  refine PrintLast.goes_ Try.func45 (by kernel_rfl) rfl #[.pointer (some ⟨g, 0, none⟩)] (by rfl) rfl rfl (by (try simp only [List.map_toArray, List.map_cons, List.map_nil]); first | done | rfl) ?_
  refine (HLV.out _ g HT7.out).mono ?_
  rintro e w' ⟨rfl, rfl⟩
  refine ⟨_, rfl, ?_⟩
  refine hK.out _ _ trivial (fun hHeld => ?_)
  clear hHeld hK K
  refine PrintLast.norm_ (a' := ?_) ?_ ?_
  rotate_left
  · show Act.put _ (some 38) _ = _
    simp only [Act.put, List.setIfInBounds_toArray, List.set_cons_zero, List.set_cons_succ, PrintLast.i64_w, PrintLast.i32_w]
    rfl
  refine PrintLast.pure_ (i := 16) (N := some 41) (v := ?_) (a' := ?_) #[true, true, true, true, true, true, true, true, true, true, true, true, true, true, true, true, true, false, false] rfl rfl (by kernel_rfl) (fun _ _ _ h => h) (Or.inl ⟨by rfl, ?_⟩) ?_ ?_
  rotate_left
  · intro w'
    go_simp
    with_reducible rfl
  rotate_left
  · simp only [Act.put, List.setIfInBounds_toArray, List.set_cons_zero, List.set_cons_succ, PrintLast.i64_w, PrintLast.i32_w]
    rfl
  refine PrintLast.pure_ (i := 17) (N := some 42) (v := ?_) (a' := ?_) #[true, true, true, true, true, true, true, true, true, true, true, true, true, true, true, true, true, true, false] rfl rfl (by kernel_rfl) (fun _ _ _ h => h) (Or.inl ⟨by rfl, ?_⟩) ?_ ?_
  rotate_left
  · intro w'
    go_simp
    with_reducible rfl
  rotate_left
  · simp only [Act.put, List.setIfInBounds_toArray, List.set_cons_zero, List.set_cons_succ, PrintLast.i64_w, PrintLast.i32_w]
    rfl
  refine PrintLast.pure_ (i := 18) (N := some 4) (v := ?_) (a' := ?_) #[true, true, true, true, true, true, true, true, true, true, true, true, true, true, true, true, true, true, true] rfl rfl (by kernel_rfl) (fun _ _ _ h => h) (Or.inl ⟨by rfl, ?_⟩) ?_ ?_
  rotate_left
  · intro w'
    go_simp
    with_reducible rfl
  rotate_left
  · simp only [Act.put, List.setIfInBounds_toArray, List.set_cons_zero, List.set_cons_succ, PrintLast.i64_w, PrintLast.i32_w]
    rfl
  refine PrintLast.done_ (by kernel_rfl) ?_
  go_wp2
  go_ret
  exact ⟨rfl, HB7.out⟩
end Go.Proofs.Ytilehfdplgciiaa.Hand
