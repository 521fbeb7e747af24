import Derived.Test.YtilehfdplgciiaaAw13
import Derived.Test.YtilehfdplgciiaaRGen
/-! certpathlaw13.SignerErrors, walked. -/
namespace Go.Proofs.Ytilehfdplgciiaa.Hand
open Go.RowKit Go.Proofs.YtilehfdplgciiaaW.PrintWords Go.Proofs.Ytilehfdplgciiaa.PLM Go.Proofs.Ytilehfdplgciiaa.Plain
set_option linter.unusedVariables false
attribute [local go_sem ↓] Go.wp_at_zero Go.wp_at_succ

set_option maxHeartbeats 4000000 in
set_option maxRecDepth 100000 in
theorem signerErrors_walk (w : World) (s : ByteArray) (hs : s.size ≤ 140737488351232) (ht : Int) (hh0 : -9223372036854775808 ≤ ht) (hh1 : ht ≤ 9223372036854775807) (nx : Int) (hx0 : -9223372036854775808 ≤ nx) (hx1 : nx ≤ 9223372036854775807) (n : Int) (hn0 : -9223372036854775808 ≤ n) (hn1 : n ≤ 9223372036854775807) (k : Int) (hk0 : 0 ≤ k) (hk1 : k ≤ 255) :
    Calls Try.prog 17 #[.string s, .int .i64 ht, .int .i64 nx, .int .i64 n, .int .u8 k] w fun e w' => e = .returned (.bool true) ∧ Below w.heap.size w w' := by
  by_cases big : s.size ≤ 60
  · go_enter Try.func17, Try.ntmps17
    go_upto_region 3 with fail
    have HS60 := Lib.hid big
    clear big
    obtain ⟨b38, hb38⟩ : ∃ b : Bool, b = decide (s.size ≠ 32 ∨ ht < 0 ∨ 8 < ht) := ⟨_, rfl⟩
    have HB38 := Lib.hid hb38
    clear hb38
    go_cut [38] (fun s38 w' => s38 = .bool b38 ∧ w = w')
    case first =>
      have hcase : ((s.size : Int) != 32) = true ∨ ((s.size : Int) != 32) = false ∧ (ht < 0 ∨ 0 ≤ ht ∧ (8 < ht ∨ ht ≤ 8)) := by
        by_cases h32 : s.size = 32
        · exact .inr ⟨by simp; omega, by omega⟩
        · exact .inl (by simp; omega)
      rcases hcase with h1 | ⟨h1, h2 | ⟨h2, h3 | h3⟩⟩
      · have hd : b38 = true := by rw [HB38.out]; simp at h1; simp; omega
        have HD := Lib.hid hd
        clear hd
        go_wp2
        go_meet
        case rel => exact ⟨by rw [HD.out], rfl⟩
      · have hd : b38 = true := by rw [HB38.out]; simp; omega
        have HD := Lib.hid hd
        clear hd
        go_wp2
        go_meet
        case rel => exact ⟨by rw [HD.out], rfl⟩
      · have hd : b38 = true := by rw [HB38.out]; simp; omega
        have HD := Lib.hid hd
        clear hd
        go_wp2
        go_meet
        case rel => exact ⟨by rw [HD.out], rfl⟩
      · have hd : b38 = false := by rw [HB38.out]; simp at h1; simp; omega
        have hd2 : (decide (ht < 0) || decide (8 < ht)) = false := by simp; omega
        have HD := Lib.hid hd
        have HD2 := Lib.hid hd2
        clear hd hd2
        go_wp2
        go_meet
        case rel => exact ⟨by rw [HD.out]; first | rfl | rw [HD2.out], rfl⟩
    case rest =>
    obtain ⟨rfl, rfl⟩ := hcut
    go_upto_if 38 with fail
    go_cut [] (fun w' => Below w.heap.size w w')
    case first =>
      by_cases bad : s.size ≠ 32 ∨ ht < 0 ∨ 8 < ht
      · obtain ⟨x, hg, hr⟩ : ∃ x : Int, (∀ (y : Int) (W : World), Calls Try.prog 57 #[.string s, .int .i64 ht, .int .i64 y] W fun e w' => e = .returned (.tuple #[.pointer none, .int .i64 x]) ∧ W = w') ∧
            (∀ W : World, Calls Try.prog 46 #[.string s, .int .i64 ht] W fun e w' => e = .returned (.tuple #[.agg #[.string ⟨#[]⟩, .string ⟨#[]⟩, .slice none 0 0], .int .i64 x]) ∧ Below W.heap.size W w') := by
          by_cases h32 : s.size = 32
          · have h2 : ht < 0 ∨ 8 < ht := by omega
            exact ⟨1, fun y W => at_height W s ht y h32 h2, fun W => rgen_height W s ht h32 h2⟩
          · exact ⟨18, fun y W => at_size W s ht y h32, fun W => rgen_size W s ht h32⟩
        have hd : b38 = true := by rw [HB38.out]; exact decide_eq_true bad
        subst hd
        have hnw := fun W => new_bad W s ht x (hg 0)
        clear bad HB38
        go_wp2_with (first | (go_at_call 56; refine (hnw _).mono ?_; rintro e w' ⟨rfl, rfl⟩) | (go_at_call 57; refine (hg nx _).mono ?_; rintro e w' ⟨rfl, rfl⟩) | (go_at_call 46; refine (hr _).mono ?_; rintro e w2 ⟨rfl, hb2⟩))
        go_meet
        case rel => exact below_alloc hb2 _
      · have hd : b38 = false := by rw [HB38.out]; exact decide_eq_false bad
        subst hd
        clear bad HB38
        go_wp2
        go_meet
        case rel => exact Below.refl _ _
    case rest =>
    have HJ2 := Lib.hid hcut
    clear hcut HS60 HB38
    have hwk : IntKind.i64.wrap k = k := IntWalk.i64_in _ (by omega)
    have hsz := seed_size k
    have HSZ := Lib.hid hsz
    clear hsz
    go_upto_region 9 with fail
    go_cut [17, 18] (fun s17 s18 w' => (∃ j gs gt : Nat, nx = (j : Int) ∧ j ≤ 2 ∧ s17 = .pointer (some ⟨gs, 0, none⟩) ∧ s18 = .int .i64 0 ∧ SS w' gs gt (seed k) 1 j ∧ Below w.heap.size w w') ∨ ((nx < 0 ∨ 0 ≤ nx ∧ 2 < nx) ∧ s17 = .pointer none ∧ s18 = .int .i64 1 ∧ Below w.heap.size w w'))
    case first =>
      by_cases hin : 0 ≤ nx ∧ nx ≤ 2
      · obtain ⟨j, rfl⟩ := Int.eq_ofNat_of_zero_le hin.1
        have hj : j ≤ 2 ^ 1 := by omega
        have HJ := Lib.hid hj
        have hat : ∀ W : World, Calls Try.prog 57 #[.string (seed k), .int .i64 1, .int .i64 j] W fun e w' => ∃ gs gt : Nat, e = .returned (.tuple #[.pointer (some ⟨gs, 0, none⟩), .int .i64 0]) ∧ SS w' gs gt (seed k) 1 j ∧ W.heap.size ≤ gs ∧ W.heap.size ≤ gt ∧ Below W.heap.size W w' := fun W => at_any W (seed k) 1 j HSZ.out (by decide) HJ.out
        clear hin hj
        go_wp2_with (first
          | (go_at_call 28; refine (seed_any k _).mono ?_; rintro e w2 ⟨rfl, hb2⟩)
          | (go_at_call 57; refine (hat _).mono ?_; rintro e w3 ⟨gs, gt, rfl, hS3, hg3, ht3, hb3⟩))
        go_meet
        case rel => exact .inl ⟨j, gs, gt, rfl, HJ.out, rfl, rfl, hS3, (HJ2.out.trans (hb2.mono HJ2.out.size)).trans (hb3.mono (Nat.le_trans HJ2.out.size hb2.size))⟩
      · have hout : nx < 0 ∨ 0 ≤ nx ∧ 2 < nx := by omega
        have HO := Lib.hid hout
        have hat : ∀ W : World, Calls Try.prog 57 #[.string (seed k), .int .i64 1, .int .i64 nx] W fun e w' => e = .returned (.tuple #[.pointer none, .int .i64 1]) ∧ Below W.heap.size W w' := fun W => at_range W (seed k) 1 nx HSZ.out (by decide) (by omega)
        clear hin hout
        go_wp2_with (first
          | (go_at_call 28; refine (seed_any k _).mono ?_; rintro e w2 ⟨rfl, hb2⟩)
          | (go_at_call 57; refine (hat _).mono ?_; rintro e w3 ⟨rfl, hb3⟩))
        go_meet
        case rel => exact .inr ⟨HO.out, rfl, rfl, (HJ2.out.trans (hb2.mono HJ2.out.size)).trans (hb3.mono (Nat.le_trans HJ2.out.size hb2.size))⟩
    case rest =>
    clear HJ2
    have HC := Lib.hid hcut
    clear hcut
    go_upto_region 10 with fail
    go_cut [105] (fun s105 w' => s105 = .bool false ∧ wc = w')
    case first =>
      rcases HC.out with ⟨j, gs, gt, rfl, hj, rfl, rfl, -, -⟩ | ⟨h1, rfl, rfl, -⟩
      · have q0 : (0 : Int) ≤ (j : Int) := by omega
        have q2 : (j : Int) ≤ 2 := by omega
        go_wp2
        go_meet
        case rel => exact ⟨rfl, rfl⟩
      · rcases h1 with h1 | ⟨h1, h2⟩
        all_goals
          go_wp2
          go_meet
          case rel => exact ⟨by first | rfl | rw [decide_eq_false (show ¬ nx ≤ 2 by omega)], rfl⟩
    case rest =>
    obtain ⟨rfl, rfl⟩ := hcut
    go_upto_region 12 with fail
    go_cut [120] (fun s120 w' => s120 = .bool false ∧ Below w.heap.size w w')
    case first =>
      rcases HC.out with ⟨j, gs, gt, rfl, hj, rfl, rfl, hS3, hB3⟩ | ⟨-, rfl, rfl, hB3⟩
      · have hL : (((2 ^ 1 - j : Nat) : Int) != 2 - (j : Int)) = false := by simp; omega
        have hj1 : j ≤ 2 ^ 1 := hj
        have HJ1 := Lib.hid hj1
        have HS3 := Lib.hid hS3
        have HB3 := Lib.hid hB3
        have hlf := fun W gs gt (t : SS W gs gt (seed k) 1 j) => left_any W gs gt (seed k) 1 j t HJ1.out
        generalize ((2 ^ 1 - j : Nat) : Int) = L at *
        have HLF := Lib.hid hlf
        have HL := Lib.hid hL
        clear hj hj1 hlf hS3 hB3 hL
        go_wp2_with (first
          | (go_at_call 58; refine (next_any _ gs gt (seed k) 1 j HS3.out).mono ?_; rintro e w' ⟨rfl, rfl⟩)
          | (go_at_call 59; refine (HLF.out _ gs gt HS3.out).mono ?_; rintro e w4 ⟨rfl, hb4⟩; have HB4 := Lib.hid (HB3.out.trans (hb4.mono HB3.out.size)); clear hb4))
        go_meet
        case rel => exact ⟨by first | rfl | rw [HL.out], HB4.out⟩
      · go_wp2
        go_meet
        case rel => exact ⟨rfl, hB3⟩
    case rest =>
    clear HC
    obtain ⟨rfl, hJ4⟩ := hcut
    have HJ4 := Lib.hid hJ4
    clear hJ4
    go_upto_block 0 with fail
    have hJ5 := (HJ4.out.alloc HJ4.out.size (.cells #[.string ⟨#[]⟩, .int .i64 0, .int .i64 0, .pointer none] 91))
    have hJ6 := below_alloc hJ5 (.cells #[.pointer none, .pointer (some ⟨wc.heap.size, 0, none⟩)] 49)
    have hT5 : Sg ((wc.alloc (.cells #[.string ⟨#[]⟩, .int .i64 0, .int .i64 0, .pointer none] 91)).alloc (.cells #[.pointer none, .pointer (some ⟨wc.heap.size, 0, none⟩)] 49)) wc.heap.size ⟨#[]⟩ 0 0 (.pointer none) := by
      unfold Sg
      rw [Below.heap_alloc _ _ _ (by simp)]
      exact heap_alloc_new wc _
    have hP5 : ((wc.alloc (.cells #[.string ⟨#[]⟩, .int .i64 0, .int .i64 0, .pointer none] 91)).alloc (.cells #[.pointer none, .pointer (some ⟨wc.heap.size, 0, none⟩)] 49)).heap[wc.heap.size + 1]? = some (.cells #[.pointer none, .pointer (some ⟨wc.heap.size, 0, none⟩)] 49 (0, 0)) := by
      have := heap_alloc_new (wc.alloc (.cells #[.string ⟨#[]⟩, .int .i64 0, .int .i64 0, .pointer none] 91)) (.cells #[.pointer none, .pointer (some ⟨wc.heap.size, 0, none⟩)] 49)
      simpa using this
    have HJ6 := Lib.hid hJ6
    have HT5 := Lib.hid hT5
    have HP5 := Lib.hid hP5
    clear hJ5 hJ6 hT5 hP5 HJ4
    generalize (wc.alloc (.cells #[.string ⟨#[]⟩, .int .i64 0, .int .i64 0, .pointer none] 91)).alloc (.cells #[.pointer none, .pointer (some ⟨wc.heap.size, 0, none⟩)] 49) = wz at *
    generalize hgz : wc.heap.size = gz at *
    clear hgz
    go_wp2
    go_loopw [21, 22, 23, 126] (fun _ _ _ s126 wr => ∃ j : Nat, j ≤ 2 ∧ s126 = .int .i64 j ∧ Below wz.heap.size wz wr) (fun _ _ _ s126 _ => (2 - intOf s126).toNat)
    case atStart => exact ⟨0, Nat.zero_le _, rfl, Below.refl _ _⟩
    case round =>
      obtain ⟨j, hj, rfl, hB⟩ := hrel
      have HB := Lib.hid hB
      have p0 : wr.cell? ⟨gz + 1, 0, none⟩ = some (.pointer none) := (hB.cell (p := ⟨gz + 1, 0, none⟩) (blk_lt HP5.out)).trans ((blk_cell HP5.out 0).trans rfl)
      have p1 : wr.cell? ⟨gz + 1, 1, none⟩ = some (.pointer (some ⟨gz, 0, none⟩)) := (hB.cell (p := ⟨gz + 1, 1, none⟩) (blk_lt HP5.out)).trans ((blk_cell HP5.out 1).trans rfl)
      have hTr : Sg wr gz ⟨#[]⟩ 0 0 (.pointer none) := (hB.block _ (blk_lt HT5.out)).trans HT5.out
      have HTr := Lib.hid hTr
      clear hB hTr
      have h012 : j = 0 ∨ j = 1 ∨ j = 2 := by omega
      rcases h012 with rfl | rfl | rfl
      · have hnil : ∀ W : World, Calls Try.prog 78 #[.pointer none] W fun e w' => e = .returned (.bool true) ∧ W = w' := fun W => none_nil W
        go_wp2_with (first | (go_at_call 60; refine (sgn_none _ _ _ (hnil _)).mono ?_; rintro e w' ⟨rfl, rfl⟩) | (go_at_call 61; refine (skey_none _ _ (fun o => hnil _)).mono ?_; rintro e w6 ⟨rfl, hb6⟩) | (go_at_call 58; refine (next_none _ _ (hnil _)).mono ?_; rintro e w' ⟨rfl, rfl⟩) | (go_at_call 59; refine (left_none _ _ (hnil _)).mono ?_; rintro e w' ⟨rfl, rfl⟩) | (go_at_call 62; refine (skip_none _ _ _ (hnil _)).mono ?_; rintro e w' ⟨rfl, rfl⟩) | (go_at_call 63; refine (fork_none _ _ (hnil _)).mono ?_; rintro e w' ⟨rfl, rfl⟩) | (go_at_call 39; refine (save_none _ _ (hnil _)).mono ?_; rintro e w' ⟨rfl, rfl⟩))
        go_roundw
        case rel => exact ⟨1, by decide, rfl, HB.out.trans (hb6.mono HB.out.size)⟩
        case measure => simp [intOf]
      · have hnil : ∀ W : World, Below wr.heap.size wr W → Calls Try.prog 78 #[.pointer (some ⟨gz, 0, none⟩)] W fun e w' => e = .returned (.bool true) ∧ W = w' := fun W hb => none_zero W gz _ ((hb.block _ (blk_lt HTr.out)).trans HTr.out)
        have h0 := hnil wr (Below.refl _ _)
        have hK : ∀ o : Obj, Calls Try.prog 78 #[.pointer (some ⟨gz, 0, none⟩)] (wr.alloc o) fun e w' => e = .returned (.bool true) ∧ wr.alloc o = w' := fun o => hnil _ (below_alloc (Below.refl _ _) o)
        have HN := Lib.hid hnil
        clear hnil
        go_wp2_with (first | (go_at_call 60; refine (sgn_none _ _ _ h0).mono ?_; rintro e w' ⟨rfl, rfl⟩) | (go_at_call 61; refine (skey_none _ _ hK).mono ?_; rintro e w6 ⟨rfl, hb6⟩; have h1 := HN.out w6 hb6) | (go_at_call 58; refine (next_none _ _ h1).mono ?_; rintro e w' ⟨rfl, rfl⟩) | (go_at_call 59; refine (left_none _ _ h1).mono ?_; rintro e w' ⟨rfl, rfl⟩) | (go_at_call 62; refine (skip_none _ _ _ h1).mono ?_; rintro e w' ⟨rfl, rfl⟩) | (go_at_call 63; refine (fork_none _ _ h1).mono ?_; rintro e w' ⟨rfl, rfl⟩) | (go_at_call 39; refine (save_none _ _ h1).mono ?_; rintro e w' ⟨rfl, rfl⟩))
        go_roundw
        case rel => exact ⟨2, by decide, rfl, HB.out.trans (hb6.mono HB.out.size)⟩
        case measure => simp [intOf]
      · clear p0 p1 HTr HT5 HP5
        have HB9 := Lib.hid (HJ6.out.trans (HB.out.mono HJ6.out.size))
        clear HB HJ6
        go_wp2_with (go_at_call 35; refine (awake13 _).mono ?_; rintro e w7 ⟨rfl, hb7⟩)
        go_ret
        exact ⟨rfl, HB9.out.trans (hb7.mono HB9.out.size)⟩
  · have hb : 60 < s.size := by omega
    clear big
    go_enter Try.func17, Try.ntmps17
    go_wp2_with (go_at_call 35; refine (awake13 _).mono ?_; rintro e w9 ⟨rfl, hb9⟩)
    go_ret
    exact ⟨rfl, hb9⟩
end Go.Proofs.Ytilehfdplgciiaa.Hand
