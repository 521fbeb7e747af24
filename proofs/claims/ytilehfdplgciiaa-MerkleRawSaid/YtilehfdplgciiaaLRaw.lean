import Derived.Test.YtilehfdplgciiaaRVer
/-! certpathlaw12.MerkleRaw, walked. -/
namespace Go.Proofs.Ytilehfdplgciiaa.Hand
open Go.Proofs.YtilehfdplgciiaaW
open Go.RowKit Go.Proofs.YtilehfdplgciiaaW.PrintWords Go.Proofs.Ytilehfdplgciiaa.PLM Go.Proofs.Ytilehfdplgciiaa.Plain
set_option linter.unusedVariables false
set_option linter.unusedSimpArgs false
attribute [local go_sem ↓] Go.wp_at_zero Go.wp_at_succ

theorem info_byte : (Try.prog.info? 5).map (fun i => (i.zero, i.size, i.bytes)) = some (some (.int .u8 0), 1, 1) := by kernel_rfl
/-- Bytes that are zero, made. -/
theorem made_bytes (W : World) (n : Nat) (hn : n ≤ 1000) : (Instr.makeSlice 24 (.int .i64 n) (.int .i64 n)).run Try.prog W = .ok (.slice (some ⟨W.heap.size, 0, none⟩) n n) (W.alloc (.cells (madeCells #[.int .u8 0] n) 5)) := by
  have hi := info_byte
  cases hq : Try.prog.info? 5 with
  | none => rw [hq] at hi; exact absurd hi (by simp)
  | some i =>
    rw [hq] at hi
    simp only [Option.map_some, Option.some.injEq, Prod.mk.injEq] at hi
    have := run_make (P := Try.prog) W 24 5 i (.int .u8 0) Try.underlying24 hq hi.1 .i64 .i64 n n (by omega) (by omega) (by rw [hi.2.2]; omega) (by omega)
    rw [hi.2.1, Int.toNat_natCast, Nat.mul_one] at this
    exact this
theorem made_byte (n i : Nat) (h : i < n) : (madeCells #[Value.int .u8 0] n)[i]? = some (.int .u8 0) := by
  unfold madeCells
  rw [Array.getElem?_map, Array.getElem?_range, if_pos h]
  simp [Nat.mod_one]
theorem conv_bytes (W : World) (g n : Nat) (h : W.heap[g]? = some (.cells (madeCells #[.int .u8 0] n) 5 (0, 0))) :
    (Go.convert 24 9 (.slice (some ⟨g, 0, none⟩) n n)).run Try.prog W = .ok (.string (strOfNums (List.replicate n 0))) W := by
  refine run_convert_bytes_arg W 24 5 Try.underlying24 Try.underlying5 g 0 n n (List.replicate n 0) (by simp) (fun i hi => ?_) 9 Try.underlying9
  have hc := (blk_cell h i).trans (made_byte n i hi)
  rw [Nat.zero_add, hc]
  simp [hi]
set_option maxHeartbeats 4000000 in
set_option maxRecDepth 100000 in
theorem merkleRaw_walk (w : World) (kh : Int) (id rt : ByteArray) (hk0 : -9223372036854775808 ≤ kh) (hk1 : kh ≤ 9223372036854775807) (m : ByteArray) (hmz : m.size ≤ 140737488351232) (sg : ByteArray) (hsz : sg.size ≤ 140737488351232) (fit : Bool) :
    Calls Try.prog 15 #[.agg #[.int .i64 kh, .string id, .string rt], .string m, .string sg, .bool fit] w fun e w' => e = .returned (.bool true) ∧ Below w.heap.size w w' := by
  have hJ : Jk w kh id rt (w.alloc (.cells #[.int .i64 kh, .string id, .string rt] 58)) := ⟨heap_alloc_new w _, below_alloc (Below.refl _ _) _⟩
  have HJ := Lib.hid hJ
  have c1 : (w.alloc (.cells #[.int .i64 kh, .string id, .string rt] 58)).cell? ⟨w.heap.size, 1, none⟩ = some (.string id) := (blk_cell hJ.1 1).trans rfl
  have c2 : (w.alloc (.cells #[.int .i64 kh, .string id, .string rt] 58)).cell? ⟨w.heap.size, 2, none⟩ = some (.string rt) := (blk_cell hJ.1 2).trans rfl
  clear hJ
  by_cases big : id.size ≤ 60 ∧ rt.size ≤ 60 ∧ m.size ≤ 200 ∧ sg.size ≤ 700
  · obtain ⟨b1, b2, b3, b4⟩ := big
    go_enter Try.func15, Try.ntmps15
    go_upto_if 34 with fail
    clear c1 c2
    generalize w.alloc (.cells #[.int .i64 kh, .string id, .string rt] 58) = w1 at *
    have HM := Lib.hid b3
    have HSG := Lib.hid b4
    clear b1 b2 b3 b4 hsz
    go_cut [2] (fun s2 w' => ∃ (h : Int) (i r sg : ByteArray), s2 = .string sg ∧ sg.size ≤ 700 ∧ Jk w h i r w')
    case first =>
      cases fit
      · go_wp2
        go_meet
        case rel => exact ⟨kh, id, rt, sg, rfl, HSG.out, HJ.out⟩
      · have hs1 := fun W => seed_any 1 W
        have hs2 := fun W => seed_any 2 W
        have z1 := seed_size 1
        have z2 := seed_size 2
        generalize seed 1 = s1 at *
        generalize seed 2 = s2 at *
        have y0 : (0 : Int) ≤ 16 := by decide
        have y1 : (16 : Int) ≤ (s1.size : Int) := by omega
        have y2 : (16 : Int) ≤ (s2.size : Int) := by omega
        have HS1 := Lib.hid hs1
        have HS2 := Lib.hid hs2
        clear hs1 hs2 z1 z2 HSG
        go_upto_region 4 with fail
        go_region_held3 (fun w' => True) (first | trivial | go_keep) ((first
          | (go_at_call 28; refine (HS1.out _).mono ?_; rintro e w2 ⟨rfl, hb2⟩; have HJ2 := Lib.hid ((HJ.out.below (below_drew (Below.refl _ w1))).below hb2); clear hb2)
          | (go_at_call 28; refine (HS2.out _).mono ?_; rintro e w3 ⟨rfl, hb3⟩; have hJ3 := HJ2.out.below hb3; have HJ3 := Lib.hid hJ3; have l0 := blk_frozen hJ3.1 0; have l1 := blk_frozen hJ3.1 1; have l2 := blk_frozen hJ3.1 2; have q0 := (blk_cell hJ3.1 0).trans rfl; have q1 := (blk_cell hJ3.1 1).trans rfl; have q2 := (blk_cell hJ3.1 2).trans rfl; clear hb3 hJ3)))
        have hs0 := blk_set HJ3.out.1 0 (.int .i64 0)
        have hs1 := blk_set hs0 1 (.string (s1.extract 0 16))
        have hs2 := blk_set hs1 2 (.string (s2.extract 0 16))
        have hb4 := ((HJ3.out.2.setCell (p := ⟨w.heap.size, 0, none⟩) (Nat.le_refl _) (.int .i64 0)).setCell (p := ⟨w.heap.size, 1, none⟩) (Nat.le_refl _) (.string (s1.extract 0 16))).setCell (p := ⟨w.heap.size, 2, none⟩) (Nat.le_refl _) (.string (s2.extract 0 16))
        have HJ4 := Lib.hid (show Jk w 0 (s1.extract 0 16) (s2.extract 0 16) _ from ⟨hs2, hb4⟩)
        clear hs0 hs1 hs2 hb4 q0 q1 q2 l0 l1 l2
        generalize ((w3.setCell ⟨w.heap.size, 0, none⟩ (.int .i64 0)).setCell ⟨w.heap.size, 1, none⟩ (.string (s1.extract 0 16))).setCell ⟨w.heap.size, 2, none⟩ (.string (s2.extract 0 16)) = w4 at *
        have hmk : (Instr.makeSlice 24 (.int .i64 560) (.int .i64 560)).run Try.prog w4 = .ok (.slice (some ⟨w4.heap.size, 0, none⟩) 560 560) (w4.alloc (.cells (madeCells #[.int .u8 0] 560) 5)) := made_bytes w4 560 (by decide)
        have hcv := conv_bytes (w4.alloc (.cells (madeCells #[.int .u8 0] 560) 5)) w4.heap.size 560 (heap_alloc_new _ _)
        obtain ⟨zs, hzs⟩ : ∃ zs, zs = strOfNums (List.replicate 560 0) := ⟨_, rfl⟩
        rw [← hzs] at hcv
        have hz0 : zs.size = 560 := by rw [hzs, strOfNums_size]; simp
        have HZ0 := Lib.hid hz0
        have hz1 : 4 + zs.size ≤ 9223372036854775807 := by omega
        have HJ44 := Lib.hid (HJ4.out.below (below_alloc (Below.refl _ _) (.cells (madeCells #[.int .u8 0] 560) 5)))
        clear hzs hz0
        go_wp2
        go_meet
        case rel => exact ⟨0, _, _, _, rfl, by rw [ByteArray.size_append, HZ0.out]; decide, HJ44.out⟩
    case rest =>
    obtain ⟨h, i, r, sg, rfl, hsg, hJ⟩ := hcut
    have HJ5 := Lib.hid hJ
    clear hJ HJ
    have hm1 : m.size ≤ 1000 := by have := HM.out; omega
    have hlf := fun W => leaf_any sg (by omega) W
    have hrl := fun W => rleaf_any sg W
    have hck := fun W => check_any h i r W
    have hrc := fun W => rcheck_any h i r W
    have hvr := fun W => ver_any h i r m sg hm1 (by omega) W
    have hrv := fun W => rver_any h i r m sg hm1 (by omega) W
    generalize lfV sg = lv at *
    generalize lfB sg = lb at *
    generalize (if 0 ≤ h ∧ h ≤ 8 ∧ i.size = 16 ∧ r.size = 16 then (0 : Int) else 18) = cc at *
    generalize verR h i r m sg = vv at *
    have HLF := Lib.hid hlf
    have HRL := Lib.hid hrl
    have HCK := Lib.hid hck
    have HRC := Lib.hid hrc
    have HVR := Lib.hid hvr
    have HRV := Lib.hid hrv
    clear hlf hrl hck hrc hvr hrv hm1 hsg
    go_upto_region 8 with (first
      | (go_at_call 51; refine (HLF.out _).mono ?_; rintro e w6 ⟨rfl, hb6⟩; have HJ55 := Lib.hid (HJ5.out.below hb6); clear hb6)
      | (go_at_call 54; refine (HRL.out _).mono ?_; rintro e w66 ⟨rfl, hb6⟩; have HJ6 := Lib.hid (HJ55.out.below hb6); clear hb6))
    refine PrintLast.start_ (n := 30) (S := fun w' => Jk w h i r w') (ds := []) #[false, false, false, false, false, false, false, false, false, false, false, false, false, false, false, false, false, false, false, false, false, false, false, false, false, false, false, false, false, false] (by kernel_rfl) rfl rfl (HJ6.out.below (below_drew (Below.refl _ _))) (fun hHeld => ?_)
    clear hHeld
    refine PrintLast.one_ (i := 0) (N := some 53) #[true, false, false, false, false, false, false, false, false, false, false, false, false, false, false, false, false, false, false, false, false, false, false, false, false, false, false, false, false, false] rfl rfl (by kernel_rfl) (by decide) (fun K hK => ?_)
    refine PrintLast.goes_ Try.func41 (by kernel_rfl) rfl #[] (by rfl) rfl rfl (by (try simp only [List.map_toArray, List.map_cons, List.map_nil]); first | done | rfl) ?_
    refine (awake12 _).mono ?_
    rintro e w7 ⟨rfl, hb⟩
    refine ⟨_, rfl, ?_⟩
    have HJ7 := Lib.hid ((HJ6.out.below (below_drew (Below.refl _ _))).below hb)
    clear hb
    refine hK.out _ _ (HJ7.out) (fun hHeld => ?_)
    clear hHeld hK K
    refine PrintLast.norm_ (a' := ?_) ?_ ?_
    rotate_left
    · show Act.put _ (some 53) _ = _
      simp only [Act.put, List.setIfInBounds_toArray, List.set_cons_zero, List.set_cons_succ, PrintLast.i64_w, PrintLast.i32_w]
      rfl
    refine PrintLast.pure_ (i := 1) (N := some 54) (v := ?_) (a' := ?_) #[true, true, false, false, false, false, false, false, false, false, false, false, false, false, false, false, false, false, false, false, false, false, false, false, false, false, false, false, false, false] rfl rfl (by kernel_rfl) (fun _ _ _ h => h) (Or.inl ⟨by rfl, ?_⟩) ?_ ?_
    rotate_left
    · intro w'
      go_simp
      with_reducible rfl
    rotate_left
    · simp only [Act.put, List.setIfInBounds_toArray, List.set_cons_zero, List.set_cons_succ, PrintLast.i64_w, PrintLast.i32_w]
      rfl
    refine PrintLast.pure_ (i := 2) (N := some 55) (v := ?_) (a' := ?_) #[true, true, true, false, false, false, false, false, false, false, false, false, false, false, false, false, false, false, false, false, false, false, false, false, false, false, false, false, false, false] rfl rfl (by kernel_rfl) (fun _ _ _ h => h) (Or.inl ⟨by rfl, ?_⟩) ?_ ?_
    rotate_left
    · intro w'
      go_simp
      with_reducible rfl
    rotate_left
    · simp only [Act.put, List.setIfInBounds_toArray, List.set_cons_zero, List.set_cons_succ, PrintLast.i64_w, PrintLast.i32_w]
      rfl
    refine PrintLast.pure_ (i := 3) (N := some 56) (v := ?_) (a' := ?_) #[true, true, true, true, false, false, false, false, false, false, false, false, false, false, false, false, false, false, false, false, false, false, false, false, false, false, false, false, false, false] rfl rfl (by kernel_rfl) (fun _ _ _ h => h) (Or.inl ⟨by rfl, ?_⟩) ?_ ?_
    rotate_left
    · intro w'
      go_simp
      with_reducible rfl
    rotate_left
    · simp only [Act.put, List.setIfInBounds_toArray, List.set_cons_zero, List.set_cons_succ, PrintLast.i64_w, PrintLast.i32_w]
      rfl
    refine PrintLast.pure_ (i := 4) (N := some 57) (v := ?_) (a' := ?_) #[true, true, true, true, true, false, false, false, false, false, false, false, false, false, false, false, false, false, false, false, false, false, false, false, false, false, false, false, false, false] rfl rfl (by kernel_rfl) (fun _ _ _ h => h) (Or.inl ⟨by rfl, ?_⟩) ?_ ?_
    rotate_left
    · intro w'
      go_simp
      with_reducible rfl
    rotate_left
    · simp only [Act.put, List.setIfInBounds_toArray, List.set_cons_zero, List.set_cons_succ, PrintLast.i64_w, PrintLast.i32_w]
      rfl
    refine PrintLast.pure_ (i := 5) (N := some 58) (v := ?_) (a' := ?_) #[true, true, true, true, true, true, false, false, false, false, false, false, false, false, false, false, false, false, false, false, false, false, false, false, false, false, false, false, false, false] rfl rfl (by kernel_rfl) (fun _ _ _ h => h) (Or.inl ⟨by rfl, ?_⟩) ?_ ?_
    rotate_left
    · intro w'
      go_simp
      with_reducible rfl
    rotate_left
    · simp only [Act.put, List.setIfInBounds_toArray, List.set_cons_zero, List.set_cons_succ, PrintLast.i64_w, PrintLast.i32_w]
      rfl
    refine PrintLast.pure_ (i := 6) (N := some 59) (v := ?_) (a' := ?_) #[true, true, true, true, true, true, true, false, false, false, false, false, false, false, false, false, false, false, false, false, false, false, false, false, false, false, false, false, false, false] rfl rfl (by kernel_rfl) (fun _ _ _ h => h) (Or.inl ⟨by rfl, ?_⟩) ?_ ?_
    rotate_left
    · intro w'
      go_simp
      with_reducible rfl
    rotate_left
    · simp only [Act.put, List.setIfInBounds_toArray, List.set_cons_zero, List.set_cons_succ, PrintLast.i64_w, PrintLast.i32_w]
      rfl
    refine PrintLast.pure_ (i := 7) (N := some 60) (v := ?_) (a' := ?_) #[true, true, true, true, true, true, true, true, false, false, false, false, false, false, false, false, false, false, false, false, false, false, false, false, false, false, false, false, false, false] rfl rfl (by kernel_rfl) (fun _ _ _ h => h) (Or.inl ⟨by rfl, ?_⟩) ?_ ?_
    rotate_left
    · intro w'
      go_simp
      with_reducible rfl
    rotate_left
    · simp only [Act.put, List.setIfInBounds_toArray, List.set_cons_zero, List.set_cons_succ, PrintLast.i64_w, PrintLast.i32_w]
      rfl
    refine PrintLast.pure_ (i := 8) (N := some 61) (v := ?_) (a' := ?_) #[true, true, true, true, true, true, true, true, true, false, false, false, false, false, false, false, false, false, false, false, false, false, false, false, false, false, false, false, false, false] rfl rfl (by kernel_rfl) (fun _ _ _ h => h) (Or.inl ⟨by rfl, ?_⟩) ?_ ?_
    rotate_left
    · intro w'
      go_simp
      with_reducible rfl
    rotate_left
    · simp only [Act.put, List.setIfInBounds_toArray, List.set_cons_zero, List.set_cons_succ, PrintLast.i64_w, PrintLast.i32_w]
      rfl
    refine PrintLast.pure_ (i := 9) (N := some 62) (v := ?_) (a' := ?_) #[true, true, true, true, true, true, true, true, true, true, false, false, false, false, false, false, false, false, false, false, false, false, false, false, false, false, false, false, false, false] rfl rfl (by kernel_rfl) (fun _ _ _ h => h) (Or.inl ⟨by rfl, ?_⟩) ?_ ?_
    rotate_left
    · intro w'
      go_simp
      with_reducible rfl
    rotate_left
    · simp only [Act.put, List.setIfInBounds_toArray, List.set_cons_zero, List.set_cons_succ, PrintLast.i64_w, PrintLast.i32_w]
      rfl
    refine PrintLast.pure_ (i := 10) (N := some 63) (v := ?_) (a' := ?_) #[true, true, true, true, true, true, true, true, true, true, true, false, false, false, false, false, false, false, false, false, false, false, false, false, false, false, false, false, false, false] rfl rfl (by kernel_rfl) (fun _ _ _ h => h) (Or.inl ⟨by rfl, ?_⟩) ?_ ?_
    rotate_left
    · intro w'
      go_simp
      with_reducible rfl
    rotate_left
    · simp only [Act.put, List.setIfInBounds_toArray, List.set_cons_zero, List.set_cons_succ, PrintLast.i64_w, PrintLast.i32_w]
      rfl
    refine PrintLast.pure_ (i := 11) (N := some 64) (v := ?_) (a' := ?_) #[true, true, true, true, true, true, true, true, true, true, true, true, false, false, false, false, false, false, false, false, false, false, false, false, false, false, false, false, false, false] rfl rfl (by kernel_rfl) (fun _ _ _ h => h) (Or.inl ⟨by rfl, ?_⟩) ?_ ?_
    rotate_left
    · intro w'
      go_simp
      with_reducible rfl
    rotate_left
    · simp only [Act.put, List.setIfInBounds_toArray, List.set_cons_zero, List.set_cons_succ, PrintLast.i64_w, PrintLast.i32_w]
      rfl
    refine PrintLast.take_ (i := 12) (N := some 65) (v := ?_) (a' := ?_) #[true, true, true, true, true, true, true, true, true, true, true, true, true, false, false, false, false, false, false, false, false, false, false, false, false, false, false, false, false, false] rfl rfl (by kernel_rfl) (fun _ _ _ h => h) (Or.inl ⟨by rfl, ?_⟩) HJ7.out ?_ ?_
    rotate_left
    · intro w' hS
      have c0 := (blk_cell hS.1 0).trans rfl
      have c1 := (blk_cell hS.1 1).trans rfl
      have c2 := (blk_cell hS.1 2).trans rfl
      go_simp
      with_reducible rfl
    rotate_left
    · simp only [Act.put, List.setIfInBounds_toArray, List.set_cons_zero, List.set_cons_succ, PrintLast.i64_w, PrintLast.i32_w]
      rfl
    refine PrintLast.take_ (i := 14) (N := some 67) (v := ?_) (a' := ?_) #[true, true, true, true, true, true, true, true, true, true, true, true, true, false, true, false, false, false, false, false, false, false, false, false, false, false, false, false, false, false] rfl rfl (by kernel_rfl) (fun _ _ _ h => h) (Or.inl ⟨by rfl, ?_⟩) HJ7.out ?_ ?_
    rotate_left
    · intro w' hS
      have c0 := (blk_cell hS.1 0).trans rfl
      have c1 := (blk_cell hS.1 1).trans rfl
      have c2 := (blk_cell hS.1 2).trans rfl
      go_simp
      with_reducible rfl
    rotate_left
    · simp only [Act.put, List.setIfInBounds_toArray, List.set_cons_zero, List.set_cons_succ, PrintLast.i64_w, PrintLast.i32_w]
      rfl
    refine PrintLast.one_ (i := 13) (N := some 66) #[true, true, true, true, true, true, true, true, true, true, true, true, true, true, true, false, false, false, false, false, false, false, false, false, false, false, false, false, false, false] rfl rfl (by kernel_rfl) (by decide) (fun K hK => ?_)
    refine PrintLast.goes_ Try.func48 (by kernel_rfl) rfl #[.agg #[.int .i64 h, .string i, .string r]] (by rfl) rfl rfl (by (try simp only [List.map_toArray, List.map_cons, List.map_nil]); first | done | rfl) ?_
    refine (HCK.out _).mono ?_
    rintro e w8 ⟨rfl, hb⟩
    refine ⟨_, rfl, ?_⟩
    have HJ8 := Lib.hid (HJ7.out.below hb)
    clear hb
    refine hK.out _ _ (HJ8.out) (fun hHeld => ?_)
    clear hHeld hK K
    refine PrintLast.norm_ (a' := ?_) ?_ ?_
    rotate_left
    · show Act.put _ (some 66) _ = _
      simp only [Act.put, List.setIfInBounds_toArray, List.set_cons_zero, List.set_cons_succ, PrintLast.i64_w, PrintLast.i32_w]
      rfl
    refine PrintLast.one_ (i := 15) (N := some 68) #[true, true, true, true, true, true, true, true, true, true, true, true, true, true, true, true, false, false, false, false, false, false, false, false, false, false, false, false, false, false] rfl rfl (by kernel_rfl) (by decide) (fun K hK => ?_)
    refine PrintLast.goes_ Try.func49 (by kernel_rfl) rfl #[.agg #[.int .i64 h, .string i, .string r]] (by rfl) rfl rfl (by (try simp only [List.map_toArray, List.map_cons, List.map_nil]); first | done | rfl) ?_
    refine (HRC.out _).mono ?_
    rintro e w9 ⟨rfl, hb⟩
    refine ⟨_, rfl, ?_⟩
    have HJ9 := Lib.hid (HJ8.out.below hb)
    clear hb
    refine hK.out _ _ (HJ9.out) (fun hHeld => ?_)
    clear hHeld hK K
    refine PrintLast.norm_ (a' := ?_) ?_ ?_
    rotate_left
    · show Act.put _ (some 68) _ = _
      simp only [Act.put, List.setIfInBounds_toArray, List.set_cons_zero, List.set_cons_succ, PrintLast.i64_w, PrintLast.i32_w]
      rfl
    refine PrintLast.pure_ (i := 16) (N := some 69) (v := ?_) (a' := ?_) #[true, true, true, true, true, true, true, true, true, true, true, true, true, true, true, true, true, false, false, false, false, false, false, false, false, false, false, false, false, false] rfl rfl (by kernel_rfl) (fun _ _ _ h => h) (Or.inl ⟨by rfl, ?_⟩) ?_ ?_
    rotate_left
    · intro w'
      go_simp
      with_reducible rfl
    rotate_left
    · simp only [Act.put, List.setIfInBounds_toArray, List.set_cons_zero, List.set_cons_succ, PrintLast.i64_w, PrintLast.i32_w]
      rfl
    refine PrintLast.pure_ (i := 17) (N := some 70) (v := ?_) (a' := ?_) #[true, true, true, true, true, true, true, true, true, true, true, true, true, true, true, true, true, true, false, false, false, false, false, false, false, false, false, false, false, false] rfl rfl (by kernel_rfl) (fun _ _ _ h => h) (Or.inl ⟨by rfl, ?_⟩) ?_ ?_
    rotate_left
    · intro w'
      go_simp
      with_reducible rfl
    rotate_left
    · simp only [Act.put, List.setIfInBounds_toArray, List.set_cons_zero, List.set_cons_succ, PrintLast.i64_w, PrintLast.i32_w]
      rfl
    refine PrintLast.pure_ (i := 18) (N := some 71) (v := ?_) (a' := ?_) #[true, true, true, true, true, true, true, true, true, true, true, true, true, true, true, true, true, true, true, false, false, false, false, false, false, false, false, false, false, false] rfl rfl (by kernel_rfl) (fun _ _ _ h => h) (Or.inl ⟨by rfl, ?_⟩) ?_ ?_
    rotate_left
    · intro w'
      go_simp
      with_reducible rfl
    rotate_left
    · simp only [Act.put, List.setIfInBounds_toArray, List.set_cons_zero, List.set_cons_succ, PrintLast.i64_w, PrintLast.i32_w]
      rfl
    refine PrintLast.take_ (i := 19) (N := some 72) (v := ?_) (a' := ?_) #[true, true, true, true, true, true, true, true, true, true, true, true, true, true, true, true, true, true, true, true, false, false, false, false, false, false, false, false, false, false] rfl rfl (by kernel_rfl) (fun _ _ _ h => h) (Or.inl ⟨by rfl, ?_⟩) HJ9.out ?_ ?_
    rotate_left
    · intro w' hS
      have c0 := (blk_cell hS.1 0).trans rfl
      have c1 := (blk_cell hS.1 1).trans rfl
      have c2 := (blk_cell hS.1 2).trans rfl
      go_simp
      with_reducible rfl
    rotate_left
    · simp only [Act.put, List.setIfInBounds_toArray, List.set_cons_zero, List.set_cons_succ, PrintLast.i64_w, PrintLast.i32_w]
      rfl
    refine PrintLast.take_ (i := 23) (N := some 76) (v := ?_) (a' := ?_) #[true, true, true, true, true, true, true, true, true, true, true, true, true, true, true, true, true, true, true, true, false, false, false, true, false, false, false, false, false, false] rfl rfl (by kernel_rfl) (fun _ _ _ h => h) (Or.inl ⟨by rfl, ?_⟩) HJ9.out ?_ ?_
    rotate_left
    · intro w' hS
      have c0 := (blk_cell hS.1 0).trans rfl
      have c1 := (blk_cell hS.1 1).trans rfl
      have c2 := (blk_cell hS.1 2).trans rfl
      go_simp
      with_reducible rfl
    rotate_left
    · simp only [Act.put, List.setIfInBounds_toArray, List.set_cons_zero, List.set_cons_succ, PrintLast.i64_w, PrintLast.i32_w]
      rfl
    refine PrintLast.pure_ (i := 20) (N := some 73) (v := ?_) (a' := ?_) #[true, true, true, true, true, true, true, true, true, true, true, true, true, true, true, true, true, true, true, true, true, false, false, true, false, false, false, false, false, false] rfl rfl (by kernel_rfl) (fun _ _ _ h => h) (Or.inl ⟨by rfl, ?_⟩) ?_ ?_
    rotate_left
    · intro w'
      go_simp
      with_reducible rfl
    rotate_left
    · simp only [Act.put, List.setIfInBounds_toArray, List.set_cons_zero, List.set_cons_succ, PrintLast.i64_w, PrintLast.i32_w]
      rfl
    refine PrintLast.pure_ (i := 21) (N := some 74) (v := ?_) (a' := ?_) #[true, true, true, true, true, true, true, true, true, true, true, true, true, true, true, true, true, true, true, true, true, true, false, true, false, false, false, false, false, false] rfl rfl (by kernel_rfl) (fun _ _ _ h => h) (Or.inl ⟨by rfl, ?_⟩) ?_ ?_
    rotate_left
    · intro w'
      go_simp
      with_reducible rfl
    rotate_left
    · simp only [Act.put, List.setIfInBounds_toArray, List.set_cons_zero, List.set_cons_succ, PrintLast.i64_w, PrintLast.i32_w]
      rfl
    refine PrintLast.pure_ (i := 24) (N := some 77) (v := ?_) (a' := ?_) #[true, true, true, true, true, true, true, true, true, true, true, true, true, true, true, true, true, true, true, true, true, true, false, true, true, false, false, false, false, false] rfl rfl (by kernel_rfl) (fun _ _ _ h => h) (Or.inl ⟨by rfl, ?_⟩) ?_ ?_
    rotate_left
    · intro w'
      go_simp
      with_reducible rfl
    rotate_left
    · simp only [Act.put, List.setIfInBounds_toArray, List.set_cons_zero, List.set_cons_succ, PrintLast.i64_w, PrintLast.i32_w]
      rfl
    refine PrintLast.pure_ (i := 25) (N := some 78) (v := ?_) (a' := ?_) #[true, true, true, true, true, true, true, true, true, true, true, true, true, true, true, true, true, true, true, true, true, true, false, true, true, true, false, false, false, false] rfl rfl (by kernel_rfl) (fun _ _ _ h => h) (Or.inl ⟨by rfl, ?_⟩) ?_ ?_
    rotate_left
    · intro w'
      go_simp
      with_reducible rfl
    rotate_left
    · simp only [Act.put, List.setIfInBounds_toArray, List.set_cons_zero, List.set_cons_succ, PrintLast.i64_w, PrintLast.i32_w]
      rfl
    refine PrintLast.one_ (i := 22) (N := some 75) #[true, true, true, true, true, true, true, true, true, true, true, true, true, true, true, true, true, true, true, true, true, true, true, true, true, true, false, false, false, false] rfl rfl (by kernel_rfl) (by decide) (fun K hK => ?_)
    refine PrintLast.goes_ Try.func52 (by kernel_rfl) rfl #[.agg #[.int .i64 h, .string i, .string r], .string m, .string sg] (by rfl) rfl rfl (by (try simp only [List.map_toArray, List.map_cons, List.map_nil]); first | done | rfl) ?_
    refine (HVR.out _).mono ?_
    rintro e w10 ⟨rfl, hb⟩
    refine ⟨_, rfl, ?_⟩
    have HJ10 := Lib.hid (HJ9.out.below hb)
    clear hb
    refine hK.out _ _ (HJ10.out) (fun hHeld => ?_)
    clear hHeld hK K
    refine PrintLast.norm_ (a' := ?_) ?_ ?_
    rotate_left
    · show Act.put _ (some 75) _ = _
      simp only [Act.put, List.setIfInBounds_toArray, List.set_cons_zero, List.set_cons_succ, PrintLast.i64_w, PrintLast.i32_w]
      rfl
    refine PrintLast.one_ (i := 26) (N := some 79) #[true, true, true, true, true, true, true, true, true, true, true, true, true, true, true, true, true, true, true, true, true, true, true, true, true, true, true, false, false, false] rfl rfl (by kernel_rfl) (by decide) (fun K hK => ?_)
    refine PrintLast.goes_ Try.func53 (by kernel_rfl) rfl #[.agg #[.int .i64 h, .string i, .string r], .string m, .string sg] (by rfl) rfl rfl (by (try simp only [List.map_toArray, List.map_cons, List.map_nil]); first | done | rfl) ?_
    refine (HRV.out _).mono ?_
    rintro e w11 ⟨rfl, hb⟩
    refine ⟨_, rfl, ?_⟩
    have HJ11 := Lib.hid (HJ10.out.below hb)
    clear hb
    refine hK.out _ _ (HJ11.out) (fun hHeld => ?_)
    clear hHeld hK K
    refine PrintLast.norm_ (a' := ?_) ?_ ?_
    rotate_left
    · show Act.put _ (some 79) _ = _
      simp only [Act.put, List.setIfInBounds_toArray, List.set_cons_zero, List.set_cons_succ, PrintLast.i64_w, PrintLast.i32_w]
      rfl
    refine PrintLast.pure_ (i := 27) (N := some 80) (v := ?_) (a' := ?_) #[true, true, true, true, true, true, true, true, true, true, true, true, true, true, true, true, true, true, true, true, true, true, true, true, true, true, true, true, false, false] rfl rfl (by kernel_rfl) (fun _ _ _ h => h) (Or.inl ⟨by rfl, ?_⟩) ?_ ?_
    rotate_left
    · intro w'
      go_simp
      with_reducible rfl
    rotate_left
    · simp only [Act.put, List.setIfInBounds_toArray, List.set_cons_zero, List.set_cons_succ, PrintLast.i64_w, PrintLast.i32_w]
      rfl
    refine PrintLast.pure_ (i := 28) (N := some 81) (v := ?_) (a' := ?_) #[true, true, true, true, true, true, true, true, true, true, true, true, true, true, true, true, true, true, true, true, true, true, true, true, true, true, true, true, true, false] rfl rfl (by kernel_rfl) (fun _ _ _ h => h) (Or.inl ⟨by rfl, ?_⟩) ?_ ?_
    rotate_left
    · intro w'
      go_simp
      with_reducible rfl
    rotate_left
    · simp only [Act.put, List.setIfInBounds_toArray, List.set_cons_zero, List.set_cons_succ, PrintLast.i64_w, PrintLast.i32_w]
      rfl
    refine PrintLast.pure_ (i := 29) (N := some 8) (v := ?_) (a' := ?_) #[true, true, true, true, true, true, true, true, true, true, true, true, true, true, true, true, true, true, true, true, true, true, true, true, true, true, true, true, true, true] rfl rfl (by kernel_rfl) (fun _ _ _ h => h) (Or.inl ⟨by rfl, ?_⟩) ?_ ?_
    rotate_left
    · intro w'
      go_simp
      with_reducible rfl
    rotate_left
    · simp only [Act.put, List.setIfInBounds_toArray, List.set_cons_zero, List.set_cons_succ, PrintLast.i64_w, PrintLast.i32_w]
      rfl
    refine PrintLast.done_ (by kernel_rfl) ?_
    go_wp2
    go_ret
    exact ⟨rfl, HJ11.out.2⟩
  · have hb : 60 < id.size ∨ id.size ≤ 60 ∧ (60 < rt.size ∨ rt.size ≤ 60 ∧ (200 < m.size ∨ m.size ≤ 200 ∧ 700 < sg.size)) := by omega
    clear big
    rcases hb with h1 | ⟨h1, h2 | ⟨h2, h3 | ⟨h3, h4⟩⟩⟩
    all_goals
      go_enter Try.func15, Try.ntmps15
      go_wp2_with (go_at_call 41; refine (awake12 _).mono ?_; rintro e w9 ⟨rfl, hb9⟩)
      go_ret
      exact ⟨rfl, (HJ.out.below hb9).2⟩
end Go.Proofs.Ytilehfdplgciiaa.Hand
