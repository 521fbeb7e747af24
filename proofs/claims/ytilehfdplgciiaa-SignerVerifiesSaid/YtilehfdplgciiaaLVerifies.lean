import Derived.Test.YtilehfdplgciiaaAw13
import Derived.Test.YtilehfdplgciiaaVer
/-! certpathlaw13.SignerVerifies, walked. -/
namespace Go.Proofs.Ytilehfdplgciiaa.Hand
open Go.Proofs.YtilehfdplgciiaaW
open Go.Proofs.YtilehfdplgciiaaW
open Go.RowKit Go.Proofs.YtilehfdplgciiaaW.PrintWords Go.Proofs.Ytilehfdplgciiaa.PLM Go.Proofs.Ytilehfdplgciiaa.Plain
set_option linter.unusedVariables false
set_option linter.unusedSimpArgs false
attribute [local go_sem ↓] Go.wp_at_zero Go.wp_at_succ

set_option maxHeartbeats 4000000 in
set_option maxRecDepth 100000 in
theorem signerVerifies_walk (w : World) (k : Int) (hk0 : 0 ≤ k) (hk1 : k ≤ 255) (nx : Int) (hn0 : 0 ≤ nx) (hn1 : nx ≤ 255) (m : ByteArray) (hmz : m.size ≤ 140737488351232) :
    Calls Try.prog 20 #[.int .u8 k, .int .u8 nx, .string m] w fun e w' => e = .returned (.bool true) ∧ Below w.heap.size w w' := by
  by_cases hm3 : m.size ≤ 300
  · obtain ⟨n, hn⟩ : ∃ n : Nat, nx % 4 = (n : Int) := ⟨(nx % 4).toNat, by omega⟩
    have hn4 : n < 4 := by omega
    have htm : Int.tmod nx 4 = (n : Int) := by rw [Int.tmod_eq_emod_of_nonneg hn0]; exact hn
    have hwk : IntKind.i64.wrap k = k := IntWalk.i64_in _ (by omega)
    have hwn : IntKind.i64.wrap (n : Int) = (n : Int) := IntWalk.i64_in _ (by omega)
    have hw1 : IntKind.i64.wrap ((n : Int) + 1) = (n : Int) + 1 := IntWalk.i64_in _ (by omega)
    have hw8 : IntKind.u8.wrap (n : Int) = (n : Int) := by unfold IntKind.wrap; simp [IntKind.bits, IntKind.signed]; omega
    obtain ⟨H, hH⟩ : ∃ H : Int, H = 2 := ⟨_, rfl⟩
    have hsd := fun W => seed_any k W
    have hat : ∀ W : World, Calls Try.prog 57 #[.string (seed k), .int .i64 2, .int .i64 n] W fun e w' => ∃ gs gt : Nat, e = .returned (.tuple #[.pointer (some ⟨gs, 0, none⟩), .int .i64 0]) ∧ SS w' gs gt (seed k) 2 n ∧ W.heap.size ≤ gs ∧ W.heap.size ≤ gt ∧ Below W.heap.size W w' := fun W => at_any W (seed k) 2 n (seed_size k) (by decide) (by omega)
    have hky : ∀ (j : Nat) (W : World) (gs gt : Nat), SS W gs gt (seed k) 2 j → Calls Try.prog 61 #[.pointer (some ⟨gs, 0, none⟩)] W fun e w' => e = .returned (.agg #[.int .i64 H, .string (nameOf (seed k)), .string (root (seed k) 2)]) ∧ SS w' gs gt (seed k) 2 j ∧ Kp (fun i => i = gt) W w' := fun j W gs gt t => by
      rw [hH]
      exact skey_any W gs gt (seed k) 2 j t
    have hsg := fun W gs gt (t : SS W gs gt (seed k) 2 n) => sgn_in W gs gt (seed k) 2 n m t (by omega) (by omega)
    have hvr : ∀ W : World, Calls Try.prog 52 #[.agg #[.int .i64 H, .string (nameOf (seed k)), .string (root (seed k) 2)], .string m, .string (sigR (seed k) 2 n m)] W fun e w' => e = .returned (.int .i64 0) ∧ Below W.heap.size W w' := fun W => by
      rw [hH]
      exact ver_true (seed k) 2 n m (by decide) (seed_size k) (by omega) (by omega) W
    generalize sigR (seed k) 2 n m = sg at *
    generalize nameOf (seed k) = id at *
    generalize root (seed k) 2 = rt at *
    generalize seed k = s at *
    have HSD := Lib.hid hsd
    have HAT := Lib.hid hat
    have HKY := Lib.hid hky
    have HSG := Lib.hid hsg
    have HVR := Lib.hid hvr
    have hkeq := fun W => key_same H id rt W
    have hkg := guard_key
    clear hsd hat hky hsg hvr hn4 hH
    go_enter Try.func20, Try.ntmps20
    go_upto_region 7 with (first | (go_at_call 28; refine (HSD.out _).mono ?_; rintro e w2 ⟨rfl, hb2⟩) | (go_at_call 57; refine (HAT.out _).mono ?_; rintro e w3 ⟨gs, gt, rfl, hS3, hg3, ht3, hb3⟩) | (go_at_call 61; refine (HKY.out n _ gs gt hS3).mono ?_; rintro e w4 ⟨rfl, hS4, hk4⟩))
    have HW := Lib.hid (And.intro (Nat.le_trans hb2.size hg3) (Nat.le_trans hb2.size ht3))
    have hb4 : Below w.heap.size w w4 := hk4.below (hb2.trans (hb3.mono hb2.size)) (Nat.le_trans hb2.size hb3.size) (fun i hi => by rw [hi]; exact Nat.le_trans hb2.size ht3)
    have hJ : ((w4.alloc (.cells #[.int .i64 H, .string id, .string rt] 58)).heap[w4.heap.size]? = some (.cells #[.int .i64 H, .string id, .string rt] 58 (0, 0))) := heap_alloc_new w4 _
    have hb5 := below_alloc hb4 (.cells #[.int .i64 H, .string id, .string rt] 58)
    have hS5 := hS4.below (below_alloc (Below.refl _ _) (.cells #[.int .i64 H, .string id, .string rt] 58))
    have hne : w4.heap.size ≠ gs ∧ w4.heap.size ≠ gt := by have h1 := hS4.lt; have h2 := hS4.2.1.lt; omega
    have HB5 := Lib.hid hb5
    have HS5 := Lib.hid hS5
    have HJ := Lib.hid hJ
    have HNE := Lib.hid hne
    clear hb2 hb3 hb4 hg3 ht3 hS3 hS4 hk4 hb5 hS5 hJ hne
    generalize w4.alloc (.cells #[.int .i64 H, .string id, .string rt] 58) = w5 at *
    generalize w4.heap.size = gr at *
    clear w4
    go_upto_region 8 with (go_at_call 60; refine (HSG.out _ gs gt HS5.out).mono ?_; rintro e w6 ⟨rfl, hS6, hk6⟩)
    have hJ6 := (hk6.block gr (blk_lt HJ.out) (fun h => h.elim HNE.out.1 HNE.out.2)).trans HJ.out
    have HJ6 := Lib.hid hJ6
    have HS6 := Lib.hid hS6
    have HB6 := Lib.hid (hk6.below_two HB5.out HW.out.1 HW.out.2)
    have d0 := (blk_cell hJ6 0).trans rfl
    have d1 := (blk_cell hJ6 1).trans rfl
    have d2 := (blk_cell hJ6 2).trans rfl
    clear hJ6 hS6 hk6
    refine PrintLast.start_ (n := 28) (S := fun w' => w'.heap[gr]? = some (.cells #[.int .i64 H, .string id, .string rt] 58 (0, 0))) (ds := []) #[false, false, false, false, false, false, false, false, false, false, false, false, false, false, false, false, false, false, false, false, false, false, false, false, false, false, false, false] (by kernel_rfl) rfl rfl (((below_drew (Below.refl _ _)).block gr (blk_lt HJ6.out)).trans HJ6.out) (fun hHeld => ?_)
    clear hHeld
    refine PrintLast.one_ (i := 0) (N := some 40) #[true, false, false, false, false, false, false, false, false, false, false, false, false, false, false, false, false, false, false, false, false, false, false, false, false, false, false, false] rfl rfl (by kernel_rfl) (by decide) (fun K hK => ?_)
    refine PrintLast.goes_ Try.func35 (by kernel_rfl) rfl #[] (by rfl) rfl rfl (by (try simp only [List.map_toArray, List.map_cons, List.map_nil]); first | done | rfl) ?_
    refine (awake13 _).mono ?_
    rintro e w7 ⟨rfl, hb7⟩
    refine ⟨_, rfl, ?_⟩
    have HB7 := Lib.hid ((below_drew HB6.out).trans (hb7.mono HB6.out.size))
    have HS7 := Lib.hid ((HS6.out.below (below_drew (Below.refl _ _))).below hb7)
    have HJ7 := Lib.hid ((hb7.block gr (blk_lt HJ6.out)).trans HJ6.out)
    clear hb7
    refine hK.out _ _ (HJ7.out) (fun hHeld => ?_)
    clear hHeld hK K
    refine PrintLast.norm_ (a' := ?_) ?_ ?_
    rotate_left
    · show Act.put _ (some 40) _ = _
      simp only [Act.put, List.setIfInBounds_toArray, List.set_cons_zero, List.set_cons_succ, PrintLast.i64_w, PrintLast.i32_w]
      rfl
    refine PrintLast.pure_ (i := 1) (N := some 41) (v := ?_) (a' := ?_) #[true, true, false, false, false, false, false, false, false, false, false, false, false, false, false, false, false, false, false, false, false, false, false, false, false, false, false, false] rfl rfl (by kernel_rfl) (fun _ _ _ h => h) (Or.inl ⟨by rfl, ?_⟩) ?_ ?_
    rotate_left
    · intro w'
      go_simp
      with_reducible rfl
    rotate_left
    · simp only [Act.put, List.setIfInBounds_toArray, List.set_cons_zero, List.set_cons_succ, PrintLast.i64_w, PrintLast.i32_w]
      rfl
    refine PrintLast.pure_ (i := 2) (N := some 42) (v := ?_) (a' := ?_) #[true, true, true, false, false, false, false, false, false, false, false, false, false, false, false, false, false, false, false, false, false, false, false, false, false, false, false, false] rfl rfl (by kernel_rfl) (fun _ _ _ h => h) (Or.inl ⟨by rfl, ?_⟩) ?_ ?_
    rotate_left
    · intro w'
      go_simp
      with_reducible rfl
    rotate_left
    · simp only [Act.put, List.setIfInBounds_toArray, List.set_cons_zero, List.set_cons_succ, PrintLast.i64_w, PrintLast.i32_w]
      rfl
    refine PrintLast.pure_ (i := 3) (N := some 43) (v := ?_) (a' := ?_) #[true, true, true, true, false, false, false, false, false, false, false, false, false, false, false, false, false, false, false, false, false, false, false, false, false, false, false, false] rfl rfl (by kernel_rfl) (fun _ _ _ h => h) (Or.inl ⟨by rfl, ?_⟩) ?_ ?_
    rotate_left
    · intro w'
      go_simp
      with_reducible rfl
    rotate_left
    · simp only [Act.put, List.setIfInBounds_toArray, List.set_cons_zero, List.set_cons_succ, PrintLast.i64_w, PrintLast.i32_w]
      rfl
    refine PrintLast.pure_ (i := 4) (N := some 44) (v := ?_) (a' := ?_) #[true, true, true, true, true, false, false, false, false, false, false, false, false, false, false, false, false, false, false, false, false, false, false, false, false, false, false, false] rfl rfl (by kernel_rfl) (fun _ _ _ h => h) (Or.inl ⟨by rfl, ?_⟩) ?_ ?_
    rotate_left
    · intro w'
      go_simp
      with_reducible rfl
    rotate_left
    · simp only [Act.put, List.setIfInBounds_toArray, List.set_cons_zero, List.set_cons_succ, PrintLast.i64_w, PrintLast.i32_w]
      rfl
    refine PrintLast.pure_ (i := 5) (N := some 45) (v := ?_) (a' := ?_) #[true, true, true, true, true, true, false, false, false, false, false, false, false, false, false, false, false, false, false, false, false, false, false, false, false, false, false, false] rfl rfl (by kernel_rfl) (fun _ _ _ h => h) (Or.inl ⟨by rfl, ?_⟩) ?_ ?_
    rotate_left
    · intro w'
      go_simp
      with_reducible rfl
    rotate_left
    · simp only [Act.put, List.setIfInBounds_toArray, List.set_cons_zero, List.set_cons_succ, PrintLast.i64_w, PrintLast.i32_w]
      rfl
    refine PrintLast.pure_ (i := 7) (N := some 47) (v := ?_) (a' := ?_) #[true, true, true, true, true, true, false, true, false, false, false, false, false, false, false, false, false, false, false, false, false, false, false, false, false, false, false, false] rfl rfl (by kernel_rfl) (fun _ _ _ h => h) (Or.inl ⟨by rfl, ?_⟩) ?_ ?_
    rotate_left
    · intro w'
      go_simp
      with_reducible rfl
    rotate_left
    · simp only [Act.put, List.setIfInBounds_toArray, List.set_cons_zero, List.set_cons_succ, PrintLast.i64_w, PrintLast.i32_w]
      rfl
    refine PrintLast.pure_ (i := 8) (N := some 48) (v := ?_) (a' := ?_) #[true, true, true, true, true, true, false, true, true, false, false, false, false, false, false, false, false, false, false, false, false, false, false, false, false, false, false, false] rfl rfl (by kernel_rfl) (fun _ _ _ h => h) (Or.inl ⟨by rfl, ?_⟩) ?_ ?_
    rotate_left
    · intro w'
      go_simp
      with_reducible rfl
    rotate_left
    · simp only [Act.put, List.setIfInBounds_toArray, List.set_cons_zero, List.set_cons_succ, PrintLast.i64_w, PrintLast.i32_w]
      rfl
    refine PrintLast.take_ (i := 6) (N := some 46) (v := ?_) (a' := ?_) #[true, true, true, true, true, true, true, true, true, false, false, false, false, false, false, false, false, false, false, false, false, false, false, false, false, false, false, false] rfl rfl (by kernel_rfl) (fun _ _ _ h => h) (Or.inl ⟨by rfl, ?_⟩) HJ7.out ?_ ?_
    rotate_left
    · intro w' hS
      have c0 := (blk_cell hS 0).trans rfl
      have c1 := (blk_cell hS 1).trans rfl
      have c2 := (blk_cell hS 2).trans rfl
      go_simp
      with_reducible rfl
    rotate_left
    · simp only [Act.put, List.setIfInBounds_toArray, List.set_cons_zero, List.set_cons_succ, PrintLast.i64_w, PrintLast.i32_w]
      rfl
    refine PrintLast.one_ (i := 9) (N := some 49) #[true, true, true, true, true, true, true, true, true, true, false, false, false, false, false, false, false, false, false, false, false, false, false, false, false, false, false, false] rfl rfl (by kernel_rfl) (by decide) (fun K hK => ?_)
    refine PrintLast.goes_ Try.func52 (by kernel_rfl) rfl #[.agg #[.int .i64 H, .string id, .string rt], .string m, .string sg] (by rfl) rfl rfl (by (try simp only [List.map_toArray, List.map_cons, List.map_nil]); first | done | rfl) ?_
    refine (HVR.out _).mono ?_
    rintro e w8 ⟨rfl, hb8⟩
    refine ⟨_, rfl, ?_⟩
    have HB8 := Lib.hid (HB7.out.trans (hb8.mono HB7.out.size))
    have HS8 := Lib.hid (HS7.out.below hb8)
    have HJ8 := Lib.hid ((hb8.block gr (blk_lt HJ7.out)).trans HJ7.out)
    clear hb8
    refine hK.out _ _ (HJ8.out) (fun hHeld => ?_)
    clear hHeld hK K
    refine PrintLast.norm_ (a' := ?_) ?_ ?_
    rotate_left
    · show Act.put _ (some 49) _ = _
      simp only [Act.put, List.setIfInBounds_toArray, List.set_cons_zero, List.set_cons_succ, PrintLast.i64_w, PrintLast.i32_w]
      rfl
    refine PrintLast.pure_ (i := 10) (N := some 50) (v := ?_) (a' := ?_) #[true, true, true, true, true, true, true, true, true, true, true, false, false, false, false, false, false, false, false, false, false, false, false, false, false, false, false, false] rfl rfl (by kernel_rfl) (fun _ _ _ h => h) (Or.inl ⟨by rfl, ?_⟩) ?_ ?_
    rotate_left
    · intro w'
      go_simp
      with_reducible rfl
    rotate_left
    · simp only [Act.put, List.setIfInBounds_toArray, List.set_cons_zero, List.set_cons_succ, PrintLast.i64_w, PrintLast.i32_w]
      rfl
    refine PrintLast.pure_ (i := 11) (N := some 51) (v := ?_) (a' := ?_) #[true, true, true, true, true, true, true, true, true, true, true, true, false, false, false, false, false, false, false, false, false, false, false, false, false, false, false, false] rfl rfl (by kernel_rfl) (fun _ _ _ h => h) (Or.inl ⟨by rfl, ?_⟩) ?_ ?_
    rotate_left
    · intro w'
      go_simp
      with_reducible rfl
    rotate_left
    · simp only [Act.put, List.setIfInBounds_toArray, List.set_cons_zero, List.set_cons_succ, PrintLast.i64_w, PrintLast.i32_w]
      rfl
    refine PrintLast.pure_ (i := 12) (N := some 52) (v := ?_) (a' := ?_) #[true, true, true, true, true, true, true, true, true, true, true, true, true, false, false, false, false, false, false, false, false, false, false, false, false, false, false, false] rfl rfl (by kernel_rfl) (fun _ _ _ h => h) (Or.inl ⟨by rfl, ?_⟩) ?_ ?_
    rotate_left
    · intro w'
      go_simp
      with_reducible rfl
    rotate_left
    · simp only [Act.put, List.setIfInBounds_toArray, List.set_cons_zero, List.set_cons_succ, PrintLast.i64_w, PrintLast.i32_w]
      rfl
    refine PrintLast.pure_ (i := 13) (N := some 53) (v := ?_) (a' := ?_) #[true, true, true, true, true, true, true, true, true, true, true, true, true, true, false, false, false, false, false, false, false, false, false, false, false, false, false, false] rfl rfl (by kernel_rfl) (fun _ _ _ h => h) (Or.inl ⟨by rfl, ?_⟩) ?_ ?_
    rotate_left
    · intro w'
      go_simp
      with_reducible rfl
    rotate_left
    · simp only [Act.put, List.setIfInBounds_toArray, List.set_cons_zero, List.set_cons_succ, PrintLast.i64_w, PrintLast.i32_w]
      rfl
    refine PrintLast.take_ (i := 15) (N := some 55) (v := ?_) (a' := ?_) #[true, true, true, true, true, true, true, true, true, true, true, true, true, true, false, true, false, false, false, false, false, false, false, false, false, false, false, false] rfl rfl (by kernel_rfl) (fun _ _ _ h => h) (Or.inl ⟨by rfl, ?_⟩) HJ8.out ?_ ?_
    rotate_left
    · intro w' hS
      have c0 := (blk_cell hS 0).trans rfl
      have c1 := (blk_cell hS 1).trans rfl
      have c2 := (blk_cell hS 2).trans rfl
      go_simp
      with_reducible rfl
    rotate_left
    · simp only [Act.put, List.setIfInBounds_toArray, List.set_cons_zero, List.set_cons_succ, PrintLast.i64_w, PrintLast.i32_w]
      rfl
    refine PrintLast.one_ (i := 14) (N := some 54) #[true, true, true, true, true, true, true, true, true, true, true, true, true, true, true, true, false, false, false, false, false, false, false, false, false, false, false, false] rfl rfl (by kernel_rfl) (by decide) (fun K hK => ?_)
    refine PrintLast.goes_ Try.func61 (by kernel_rfl) rfl #[.pointer (some ⟨gs, 0, none⟩)] (by rfl) rfl rfl (by (try simp only [List.map_toArray, List.map_cons, List.map_nil]); first | done | rfl) ?_
    refine (HKY.out (n + 1) _ gs gt HS8.out).mono ?_
    rintro e w9 ⟨rfl, hS9, hk9⟩
    refine ⟨_, rfl, ?_⟩
    have HB9 := Lib.hid (hk9.below_at HB8.out HW.out.2)
    have HS9 := Lib.hid hS9
    have HJ9 := Lib.hid ((hk9.block gr (blk_lt HJ8.out) HNE.out.2).trans HJ8.out)
    clear hS9 hk9
    refine hK.out _ _ (HJ9.out) (fun hHeld => ?_)
    clear hHeld hK K
    refine PrintLast.norm_ (a' := ?_) ?_ ?_
    rotate_left
    · show Act.put _ (some 54) _ = _
      simp only [Act.put, List.setIfInBounds_toArray, List.set_cons_zero, List.set_cons_succ, PrintLast.i64_w, PrintLast.i32_w]
      rfl
    refine PrintLast.pure_ (i := 16) (N := some 56) (v := ?_) (a' := ?_) #[true, true, true, true, true, true, true, true, true, true, true, true, true, true, true, true, true, false, false, false, false, false, false, false, false, false, false, false] rfl rfl (by kernel_rfl) (fun _ _ _ h => h) (Or.inl ⟨by rfl, ?_⟩) ?_ ?_
    rotate_left
    · intro w'
      go_simp
      with_reducible rfl
    rotate_left
    · simp only [Act.put, List.setIfInBounds_toArray, List.set_cons_zero, List.set_cons_succ, PrintLast.i64_w, PrintLast.i32_w]
      rfl
    refine PrintLast.pure_ (i := 17) (N := some 57) (v := ?_) (a' := ?_) #[true, true, true, true, true, true, true, true, true, true, true, true, true, true, true, true, true, true, false, false, false, false, false, false, false, false, false, false] rfl rfl (by kernel_rfl) (fun _ _ _ h => h) (Or.inl ⟨by rfl, ?_⟩) ?_ ?_
    rotate_left
    · intro w'
      go_simp
      with_reducible rfl
    rotate_left
    · simp only [Act.put, List.setIfInBounds_toArray, List.set_cons_zero, List.set_cons_succ, PrintLast.i64_w, PrintLast.i32_w]
      rfl
    refine PrintLast.pure_ (i := 18) (N := some 58) (v := ?_) (a' := ?_) #[true, true, true, true, true, true, true, true, true, true, true, true, true, true, true, true, true, true, true, false, false, false, false, false, false, false, false, false] rfl rfl (by kernel_rfl) (fun _ _ _ h => h) (Or.inl ⟨by rfl, ?_⟩) ?_ ?_
    rotate_left
    · intro w'
      go_simp
      with_reducible rfl
    rotate_left
    · simp only [Act.put, List.setIfInBounds_toArray, List.set_cons_zero, List.set_cons_succ, PrintLast.i64_w, PrintLast.i32_w]
      rfl
    refine PrintLast.pure_ (i := 19) (N := some 59) (v := ?_) (a' := ?_) #[true, true, true, true, true, true, true, true, true, true, true, true, true, true, true, true, true, true, true, true, false, false, false, false, false, false, false, false] rfl rfl (by kernel_rfl) (fun _ _ _ h => h) (Or.inl ⟨by rfl, ?_⟩) ?_ ?_
    rotate_left
    · intro w'
      go_simp
      with_reducible rfl
    rotate_left
    · simp only [Act.put, List.setIfInBounds_toArray, List.set_cons_zero, List.set_cons_succ, PrintLast.i64_w, PrintLast.i32_w]
      rfl
    refine PrintLast.pure_ (i := 21) (N := some 61) (v := ?_) (a' := ?_) #[true, true, true, true, true, true, true, true, true, true, true, true, true, true, true, true, true, true, true, true, false, true, false, false, false, false, false, false] rfl rfl (by kernel_rfl) (fun _ _ _ h => h) (Or.inl ⟨by rfl, ?_⟩) ?_ ?_
    rotate_left
    · intro w'
      go_simp
      with_reducible rfl
    rotate_left
    · simp only [Act.put, List.setIfInBounds_toArray, List.set_cons_zero, List.set_cons_succ, PrintLast.i64_w, PrintLast.i32_w]
      rfl
    refine PrintLast.pure_ (i := 22) (N := some 62) (v := ?_) (a' := ?_) #[true, true, true, true, true, true, true, true, true, true, true, true, true, true, true, true, true, true, true, true, false, true, true, false, false, false, false, false] rfl rfl (by kernel_rfl) (fun _ _ _ h => h) (Or.inl ⟨by rfl, ?_⟩) ?_ ?_
    rotate_left
    · intro w'
      go_simp
      with_reducible rfl
    rotate_left
    · simp only [Act.put, List.setIfInBounds_toArray, List.set_cons_zero, List.set_cons_succ, PrintLast.i64_w, PrintLast.i32_w]
      rfl
    refine PrintLast.pure_ (i := 23) (N := some 63) (v := ?_) (a' := ?_) #[true, true, true, true, true, true, true, true, true, true, true, true, true, true, true, true, true, true, true, true, false, true, true, true, false, false, false, false] rfl rfl (by kernel_rfl) (fun _ _ _ h => h) (Or.inl ⟨by rfl, ?_⟩) ?_ ?_
    rotate_left
    · intro w'
      go_simp
      with_reducible rfl
    rotate_left
    · simp only [Act.put, List.setIfInBounds_toArray, List.set_cons_zero, List.set_cons_succ, PrintLast.i64_w, PrintLast.i32_w]
      rfl
    refine PrintLast.pure_ (i := 24) (N := some 64) (v := ?_) (a' := ?_) #[true, true, true, true, true, true, true, true, true, true, true, true, true, true, true, true, true, true, true, true, false, true, true, true, true, false, false, false] rfl rfl (by kernel_rfl) (fun _ _ _ h => h) (Or.inl ⟨by rfl, ?_⟩) ?_ ?_
    rotate_left
    · intro w'
      go_simp
      with_reducible rfl
    rotate_left
    · simp only [Act.put, List.setIfInBounds_toArray, List.set_cons_zero, List.set_cons_succ, PrintLast.i64_w, PrintLast.i32_w]
      rfl
    refine PrintLast.one_ (i := 20) (N := some 60) #[true, true, true, true, true, true, true, true, true, true, true, true, true, true, true, true, true, true, true, true, true, true, true, true, true, false, false, false] rfl rfl (by kernel_rfl) (by decide) (fun K hK => ?_)
    refine PrintLast.goes_ Try.func58 (by kernel_rfl) rfl #[.pointer (some ⟨gs, 0, none⟩)] (by rfl) rfl rfl (by (try simp only [List.map_toArray, List.map_cons, List.map_nil]); first | done | rfl) ?_
    refine (next_any _ gs gt s 2 (n + 1) HS9.out).mono ?_
    rintro e w' ⟨rfl, rfl⟩
    refine ⟨_, rfl, ?_⟩
    refine hK.out _ _ (HJ9.out) (fun hHeld => ?_)
    clear hHeld hK K
    refine PrintLast.norm_ (a' := ?_) ?_ ?_
    rotate_left
    · show Act.put _ (some 60) _ = _
      simp only [Act.put, List.setIfInBounds_toArray, List.set_cons_zero, List.set_cons_succ, PrintLast.i64_w, PrintLast.i32_w]
      rfl
    refine PrintLast.pure_ (i := 25) (N := some 65) (v := ?_) (a' := ?_) #[true, true, true, true, true, true, true, true, true, true, true, true, true, true, true, true, true, true, true, true, true, true, true, true, true, true, false, false] rfl rfl (by kernel_rfl) (fun _ _ _ h => h) (Or.inl ⟨by rfl, ?_⟩) ?_ ?_
    rotate_left
    · intro w'
      go_simp
      with_reducible rfl
    rotate_left
    · simp only [Act.put, List.setIfInBounds_toArray, List.set_cons_zero, List.set_cons_succ, PrintLast.i64_w, PrintLast.i32_w]
      rfl
    refine PrintLast.pure_ (i := 26) (N := some 66) (v := ?_) (a' := ?_) #[true, true, true, true, true, true, true, true, true, true, true, true, true, true, true, true, true, true, true, true, true, true, true, true, true, true, true, false] rfl rfl (by kernel_rfl) (fun _ _ _ h => h) (Or.inl ⟨by rfl, ?_⟩) ?_ ?_
    rotate_left
    · intro w'
      go_simp
      with_reducible rfl
    rotate_left
    · simp only [Act.put, List.setIfInBounds_toArray, List.set_cons_zero, List.set_cons_succ, PrintLast.i64_w, PrintLast.i32_w]
      rfl
    refine PrintLast.pure_ (i := 27) (N := some 6) (v := ?_) (a' := ?_) #[true, true, true, true, true, true, true, true, true, true, true, true, true, true, true, true, true, true, true, true, true, true, true, true, true, true, true, true] rfl rfl (by kernel_rfl) (fun _ _ _ h => h) (Or.inl ⟨by rfl, ?_⟩) ?_ ?_
    rotate_left
    · intro w'
      go_simp
      with_reducible rfl
    rotate_left
    · simp only [Act.put, List.setIfInBounds_toArray, List.set_cons_zero, List.set_cons_succ, PrintLast.i64_w, PrintLast.i32_w]
      rfl
    refine PrintLast.done_ (by kernel_rfl) ?_
    go_wp2
    go_ret
    exact ⟨rfl, HB9.out⟩
  · have hb : 300 < m.size := by omega
    clear hm3
    go_enter Try.func20, Try.ntmps20
    go_wp2_with (go_at_call 35; refine (awake13 _).mono ?_; rintro e w9 ⟨rfl, hb9⟩)
    go_ret
    exact ⟨rfl, hb9⟩
end Go.Proofs.Ytilehfdplgciiaa.Hand
