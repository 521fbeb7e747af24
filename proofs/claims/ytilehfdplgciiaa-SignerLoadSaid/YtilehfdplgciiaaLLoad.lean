import Derived.Test.YtilehfdplgciiaaAw13
import Derived.Test.YtilehfdplgciiaaLd
import Derived.Test.YtilehfdplgciiaaDeck
/-! certpathlaw13.SignerLoad, walked. -/
namespace Go.Proofs.Ytilehfdplgciiaa.Hand
open Go.Proofs.YtilehfdplgciiaaW
open Go.RowKit Go.Proofs.YtilehfdplgciiaaW.PrintWords Go.Proofs.Ytilehfdplgciiaa.PLM Go.Proofs.Ytilehfdplgciiaa.Plain
set_option linter.unusedVariables false
set_option linter.unusedSimpArgs false
attribute [local go_sem ↓] Go.wp_at_zero Go.wp_at_succ

theorem or_bytes (a b c d n : Int) (a0 : 0 ≤ a) (a1 : a ≤ 255) (b0 : 0 ≤ b) (b1 : b ≤ 255) (c0 : 0 ≤ c) (c1 : c ≤ 255) (d0 : 0 ≤ d) (d1 : d ≤ 255) (hn : n = ((a * 256 + b) * 256 + c) * 256 + d) :
    Go.bits .or .i64 (Go.bits .or .i64 (Go.bits .or .i64 (a * 16777216) (b * 65536)) (c * 256)) d = n := by
  obtain ⟨a, rfl⟩ := Int.eq_ofNat_of_zero_le a0
  obtain ⟨b, rfl⟩ := Int.eq_ofNat_of_zero_le b0
  obtain ⟨c, rfl⟩ := Int.eq_ofNat_of_zero_le c0
  obtain ⟨d, rfl⟩ := Int.eq_ofNat_of_zero_le d0
  rw [show ((a : Int) * 16777216) = ((2 ^ 24 * a : Nat) : Int) by omega, show ((b : Int) * 65536) = ((b * 65536 : Nat) : Int) by omega, show ((c : Int) * 256) = ((c * 256 : Nat) : Int) by omega, or_nat a 24 (b * 65536) (by omega) (by omega)]
  rw [show 2 ^ 24 * a + b * 65536 = 2 ^ 16 * (a * 256 + b) by omega, or_nat (a * 256 + b) 16 (c * 256) (by omega) (by omega)]
  rw [show 2 ^ 16 * (a * 256 + b) + c * 256 = 2 ^ 8 * ((a * 256 + b) * 256 + c) by omega, or_nat ((a * 256 + b) * 256 + c) 8 d (by omega) (by omega)]
  omega
theorem lf_tail (b : ByteArray) (hb : b.size = 41) : lfP (b.extract 37 41) 4 = ((bt b 37 * 256 + bt b 38) * 256 + bt b 39) * 256 + bt b 40 := by
  have f0 := bt_ex b 37 41 0 (by decide) (by omega)
  have f1 := bt_ex b 37 41 1 (by decide) (by omega)
  have f2 := bt_ex b 37 41 2 (by decide) (by omega)
  have f3 := bt_ex b 37 41 3 (by decide) (by omega)
  show (((0 * 256 + bt (b.extract 37 41) ((0 : Nat) : Int)) * 256 + bt (b.extract 37 41) ((1 : Nat) : Int)) * 256 + bt (b.extract 37 41) ((2 : Nat) : Int)) * 256 + bt (b.extract 37 41) ((3 : Nat) : Int) = _
  rw [f0, f1, f2, f3, Int.zero_mul, Int.zero_add]
  rfl
theorem head_bool (y : ByteArray) (h : y.extract 0 4 = ⟨#[75, 69, 89, 49]⟩) : ((y.extract 0 4).toList == [75, 69, 89, 49]) = true := by rw [h, ByteArray.toList_eq]; rfl
theorem head_bool2 (y : ByteArray) (h : y.extract 0 4 ≠ ⟨#[75, 69, 89, 49]⟩) : ((y.extract 0 4).toList == [75, 69, 89, 49]) = false := by
  have := ((bool_of (a := y.extract 0 4) (b := ⟨#[75, 69, 89, 49]⟩)).2 h).1
  rwa [show (⟨#[75, 69, 89, 49]⟩ : ByteArray).toList = [75, 69, 89, 49] by rw [ByteArray.toList_eq]] at this
set_option maxHeartbeats 4000000 in
set_option maxRecDepth 100000 in
theorem signerLoad_walk (w : World) (b : ByteArray) (hbz : b.size ≤ 140737488351232) (k : Int) (hk0 : 0 ≤ k) (hk1 : k ≤ 255) (nx : Int) (hn0 : 0 ≤ nx) (hn1 : nx ≤ 255) (A : Option Addr) (c : Nat) (l : List Int) (hlz : l.length * 8 ≤ 140737488351232) (hlc : l.length ≤ c) (hC : Kd.C (Kd.int .i64) w A l.length l) :
    Calls Try.prog 10 #[.string b, .int .u8 k, .int .u8 nx, .slice A l.length c] w fun e w' => e = .returned (.bool true) ∧ Below w.heap.size w w' := by
  have HC := Lib.hid hC
  have HLZ := Lib.hid hlz
  have HLC := Lib.hid hlc
  clear hC hlz hlc
  by_cases big : b.size ≤ 100
  · have HB100 := Lib.hid (show b.size ≤ 1000 by omega)
    clear hbz
    obtain ⟨nn, hnn⟩ : ∃ nn : Nat, nx % 6 = (nn : Int) := ⟨(nx % 6).toNat, by omega⟩
    have hwk : IntKind.i64.wrap k = k := IntWalk.i64_in _ (by omega)
    have HSD := Lib.hid (fun W => seed_any k W)
    have HSZ := Lib.hid (seed_size k)
    generalize seed k = s at *
    go_enter Try.func10, Try.ntmps10
    go_upto_block 0 with (first
      | (go_at_call 25; refine (deck_new w _ A c l HLZ.out HLC.out HC.out (Below.refl _ _)).mono ?_; rintro e w2 ⟨gd, rfl, hd2, hb2⟩; have HD2 := Lib.hid hd2; clear hd2 hb2)
      | (go_at_call 28; refine (HSD.out _).mono ?_; rintro e w3 ⟨rfl, hb3⟩; have HD3 := Lib.hid (HD2.out.below hb3); clear hb3)
      | (go_at_call 37; refine (deck_next 3 HD3.out (by decide) (by decide)).mono ?_; rintro e w4 ⟨r, rfl, r0, r1, hd4, hk4⟩; have HD4 := Lib.hid hd4; clear hd4 hk4; obtain ⟨rn, rfl⟩ := Int.eq_ofNat_of_zero_le r0)
      | (go_at_call 36; refine (rsave_any _ s rn nn HSZ.out (by omega)).mono ?_; rintro e w5 ⟨rfl, hb5⟩; have HD5 := Lib.hid (HD4.out.below hb5); have HXZ := Lib.hid (save_size s rn nn HSZ.out); clear hb5; generalize saveS s rn nn = x at *)
      | (go_at_call 29; refine (damage_any x HD5.out (by rw [HXZ.out]; decide)).mono ?_; rintro e w6 ⟨z, rfl, hz6, hd6, hk6⟩; have HD6 := Lib.hid hd6; have HZZ := Lib.hid (show z.size ≤ 1000 by rw [HXZ.out] at hz6; omega); clear hz6 hd6 hk6))
    have hl7 := heap_alloc_new w6 (.cells #[.string b, .string x, .string z] 9)
    have HL7 := Lib.hid hl7
    have HB7 := Lib.hid (HD6.out.below (below_alloc (Below.refl _ _) (.cells #[.string b, .string x, .string z] 9))).bel
    clear hl7
    generalize w6.alloc (.cells #[.string b, .string x, .string z] 9) = w7 at *
    generalize w6.heap.size = gl at *
    clear HD2 HD3 HD4 HD5 HD6 HSD HSZ hnn hwk r0 r1
    go_wp2
    go_loopw [12, 13, 14, 15, 16, 39] (fun _ _ _ _ _ s39 wr => ∃ i : Nat, i ≤ 3 ∧ s39 = .int .i64 i ∧ Below w7.heap.size w7 wr) (fun _ _ _ _ _ s39 _ => (3 - intOf s39).toNat)
    case atStart => exact ⟨0, Nat.zero_le _, rfl, Below.refl _ _⟩
    case round =>
      obtain ⟨i, hi3, rfl, hBr⟩ := hrel
      have HBr := Lib.hid hBr
      by_cases hi : i < 3
      · have qi : (i : Int) < 3 := by omega
        obtain ⟨y, hy, hyz⟩ : ∃ y : ByteArray, wr.cell? ⟨gl, i, none⟩ = some (.string y) ∧ y.size ≤ 1000 := by
          have hg := (hBr.block gl (blk_lt HL7.out)).trans HL7.out
          have h012 : i = 0 ∨ i = 1 ∨ i = 2 := by omega
          rcases h012 with rfl | rfl | rfl
          · exact ⟨b, (blk_cell hg 0).trans rfl, HB100.out⟩
          · exact ⟨x, (blk_cell hg 1).trans rfl, by rw [HXZ.out]; decide⟩
          · exact ⟨z, (blk_cell hg 2).trans rfl, HZZ.out⟩
        have HYZ := Lib.hid hyz
        clear hBr hyz
        by_cases h41 : y.size = 41
        · have hbi : (y.size : Int) = 41 := by omega
          have H41 := Lib.hid h41
          have l36 : 36 < y.size := by omega
          obtain ⟨c36, hc36⟩ : ∃ c36, c36 = bt y 36 := ⟨_, rfl⟩
          have hbx : ((y[36]'l36).toNat : Int) = c36 := by rw [hc36]; exact bt_at y 36 l36
          have r36 := bt_range y 36
          rw [← hc36] at r36
          obtain ⟨r360, r361⟩ := r36
          have HC36 := Lib.hid hc36
          clear h41 hc36
          by_cases hhd : y.extract 0 4 = ⟨#[75, 69, 89, 49]⟩
          · have heq1 := head_bool y hhd
            have HHD := Lib.hid hhd
            clear hhd
            by_cases h1 : c36 ≤ 1
            · go_upto_region 11 with fail
              obtain ⟨n, hn⟩ := Int.eq_ofNat_of_zero_le (lfP_range (y.extract 37 41) 4).1
              have HNN := Lib.hid hn
              have l37 : 37 < y.size := by have := H41.out; omega
              obtain ⟨c37, hc37⟩ : ∃ c, c = bt y 37 := ⟨_, rfl⟩
              have hb37 : ((y[37]'l37).toNat : Int) = c37 := by rw [hc37]; exact bt_at y 37 l37
              have hr37 := bt_range y 37
              rw [← hc37] at hr37
              obtain ⟨x37, y37⟩ := hr37
              have l38 : 38 < y.size := by have := H41.out; omega
              obtain ⟨c38, hc38⟩ : ∃ c, c = bt y 38 := ⟨_, rfl⟩
              have hb38 : ((y[38]'l38).toNat : Int) = c38 := by rw [hc38]; exact bt_at y 38 l38
              have hr38 := bt_range y 38
              rw [← hc38] at hr38
              obtain ⟨x38, y38⟩ := hr38
              have l39 : 39 < y.size := by have := H41.out; omega
              obtain ⟨c39, hc39⟩ : ∃ c, c = bt y 39 := ⟨_, rfl⟩
              have hb39 : ((y[39]'l39).toNat : Int) = c39 := by rw [hc39]; exact bt_at y 39 l39
              have hr39 := bt_range y 39
              rw [← hc39] at hr39
              obtain ⟨x39, y39⟩ := hr39
              have l40 : 40 < y.size := by have := H41.out; omega
              obtain ⟨c40, hc40⟩ : ∃ c, c = bt y 40 := ⟨_, rfl⟩
              have hb40 : ((y[40]'l40).toNat : Int) = c40 := by rw [hc40]; exact bt_at y 40 l40
              have hr40 := bt_range y 40
              rw [← hc40] at hr40
              obtain ⟨x40, y40⟩ := hr40
              have hor := or_bytes c37 c38 c39 c40 n x37 y37 x38 y38 x39 y39 x40 y40 (by rw [← hn, lf_tail y H41.out, hc37, hc38, hc39, hc40])
              have hn32 : (n : Int) < 4294967296 := by rw [← hn]; exact (lfP_range (y.extract 37 41) 4).2
              have m37 : IntKind.i64.wrap (c37 * 16777216) = c37 * 16777216 := IntWalk.i64_in _ (by omega)
              have m38 : IntKind.i64.wrap (c38 * 65536) = c38 * 65536 := IntWalk.i64_in _ (by omega)
              have m39 : IntKind.i64.wrap (c39 * 256) = c39 * 256 := IntWalk.i64_in _ (by omega)
              have v37 : IntKind.i64.wrap c37 = c37 := IntWalk.i64_in _ (by omega)
              have v38 : IntKind.i64.wrap c38 = c38 := IntWalk.i64_in _ (by omega)
              have v39 : IntKind.i64.wrap c39 = c39 := IntWalk.i64_in _ (by omega)
              have v40 : IntKind.i64.wrap c40 = c40 := IntWalk.i64_in _ (by omega)
              have hh01 : c36 = 0 ∨ c36 = 1 := by omega
              clear hn hc37 hc38 hc39 hc40
              go_quiet (fail)
              clear hn32 hor m37 m38 m39 v37 v38 v39 v40 hb37 hb38 hb39 hb40
              rcases hh01 with rfl | rfl
              · have hs32 : (y.extract 4 36).size = 32 := by rw [ByteArray.size_extract, H41.out]; rfl
                by_cases hN : n ≤ 1
                · have qN : (n : Int) ≤ 1 := by omega
                  have HLD := Lib.hid (fun W => load_ok W y (y.extract 4 36) 0 n H41.out HHD.out rfl HC36.out.symm HNN.out hs32 (by decide) hN)
                  have HSV := Lib.hid (fun W gs gt (t : SS W gs gt (y.extract 4 36) 0 n) => by
                    have := save_any W gs gt (y.extract 4 36) 0 n t (by omega)
                    rw [saved_back y 0 n H41.out HHD.out HC36.out.symm HNN.out (by omega)] at this
                    exact this)
                  clear hs32 hN
                  go_wp2_with (first
                    | (go_at_call 38; refine (HLD.out _).mono ?_; rintro e w8 ⟨gs, gt, rfl, hs8, hg8, ht8, hb8⟩; have HS8 := Lib.hid hs8; have HB8 := Lib.hid ((pw_below_drewN HBr.out _).trans (hb8.mono HBr.out.size)); clear hs8 hg8 ht8 hb8)
                    | (go_at_call 39; refine (HSV.out _ gs gt HS8.out).mono ?_; rintro e w9 ⟨rfl, hb9⟩; have HB9 := Lib.hid (HB8.out.trans (hb9.mono HB8.out.size)); clear hb9))
                  go_roundw
                  case rel => exact ⟨i + 1, by omega, by go_num, HB9.out⟩
                  case measure => simp [intOf]; omega
                · have qN : 1 < (n : Int) := by omega
                  have HLD := Lib.hid (fun W => load_err W y (y.extract 4 36) 0 n H41.out HHD.out rfl HC36.out.symm HNN.out (fun W => at_range W _ 0 n hs32 (by decide) (.inr (by show ((2 ^ 0 : Nat) : Int) < n; omega))))
                  clear hs32 hN
                  go_wp2_with (go_at_call 38; refine (HLD.out _).mono ?_; rintro e w8 ⟨rfl, hb8⟩)
                  go_roundw
                  case rel => exact ⟨i + 1, by omega, by go_num, (pw_below_drewN HBr.out _).trans (hb8.mono HBr.out.size)⟩
                  case measure => simp [intOf]; omega
              · have hs32 : (y.extract 4 36).size = 32 := by rw [ByteArray.size_extract, H41.out]; rfl
                by_cases hN : n ≤ 2
                · have qN : (n : Int) ≤ 2 := by omega
                  have HLD := Lib.hid (fun W => load_ok W y (y.extract 4 36) 1 n H41.out HHD.out rfl HC36.out.symm HNN.out hs32 (by decide) hN)
                  have HSV := Lib.hid (fun W gs gt (t : SS W gs gt (y.extract 4 36) 1 n) => by
                    have := save_any W gs gt (y.extract 4 36) 1 n t (by omega)
                    rw [saved_back y 1 n H41.out HHD.out HC36.out.symm HNN.out (by omega)] at this
                    exact this)
                  clear hs32 hN
                  go_wp2_with (first
                    | (go_at_call 38; refine (HLD.out _).mono ?_; rintro e w8 ⟨gs, gt, rfl, hs8, hg8, ht8, hb8⟩; have HS8 := Lib.hid hs8; have HB8 := Lib.hid ((pw_below_drewN HBr.out _).trans (hb8.mono HBr.out.size)); clear hs8 hg8 ht8 hb8)
                    | (go_at_call 39; refine (HSV.out _ gs gt HS8.out).mono ?_; rintro e w9 ⟨rfl, hb9⟩; have HB9 := Lib.hid (HB8.out.trans (hb9.mono HB8.out.size)); clear hb9))
                  go_roundw
                  case rel => exact ⟨i + 1, by omega, by go_num, HB9.out⟩
                  case measure => simp [intOf]; omega
                · have qN : 2 < (n : Int) := by omega
                  have HLD := Lib.hid (fun W => load_err W y (y.extract 4 36) 1 n H41.out HHD.out rfl HC36.out.symm HNN.out (fun W => at_range W _ 1 n hs32 (by decide) (.inr (by show ((2 ^ 1 : Nat) : Int) < n; omega))))
                  clear hs32 hN
                  go_wp2_with (go_at_call 38; refine (HLD.out _).mono ?_; rintro e w8 ⟨rfl, hb8⟩)
                  go_roundw
                  case rel => exact ⟨i + 1, by omega, by go_num, (pw_below_drewN HBr.out _).trans (hb8.mono HBr.out.size)⟩
                  case measure => simp [intOf]; omega
            · have h1' : 1 < c36 := by omega
              by_cases h8 : c36 ≤ 8
              · go_wp2
                go_roundw
                case rel => exact ⟨i + 1, by omega, by go_num, HBr.out⟩
                case measure => simp [intOf]; omega
              · have h8' : 8 < c36 := by omega
                have hx36 : (y.extract 4 36).size = 32 := by rw [ByteArray.size_extract, H41.out]; rfl
                have HLD := Lib.hid (fun W => load_err W y (y.extract 4 36) c36 (lfP (y.extract 37 41) 4) H41.out HHD.out rfl HC36.out.symm rfl (fun W => (at_height W _ c36 _ hx36 (.inr h8')).mono fun e w' h => ⟨h.1, by rw [← h.2]; exact Below.refl _ _⟩))
                clear hx36
                go_wp2_with (go_at_call 38; refine (HLD.out _).mono ?_; rintro e w8 ⟨rfl, hb8⟩)
                go_roundw
                case rel => exact ⟨i + 1, by omega, by go_num, HBr.out.trans (hb8.mono HBr.out.size)⟩
                case measure => simp [intOf]; omega
          · have heq1 := head_bool2 y hhd
            have HLD := Lib.hid (fun W => load_head W y H41.out hhd)
            clear hhd
            by_cases h1 : c36 ≤ 1
            · go_wp2_with (go_at_call 38; refine (HLD.out _).mono ?_; rintro e w8 ⟨rfl, rfl⟩)
              go_roundw
              case rel => exact ⟨i + 1, by omega, by go_num, HBr.out⟩
              case measure => simp [intOf]; omega
            · have h1' : 1 < c36 := by omega
              by_cases h8 : c36 ≤ 8
              · go_wp2
                go_roundw
                case rel => exact ⟨i + 1, by omega, by go_num, HBr.out⟩
                case measure => simp [intOf]; omega
              · have h8' : 8 < c36 := by omega
                go_wp2_with (go_at_call 38; refine (HLD.out _).mono ?_; rintro e w8 ⟨rfl, rfl⟩)
                go_roundw
                case rel => exact ⟨i + 1, by omega, by go_num, HBr.out⟩
                case measure => simp [intOf]; omega
        · have hbi : ((y.size : Int) == 41) = false := by simp; omega
          have HLD := Lib.hid (fun W => load_size W y h41 HYZ.out)
          clear h41
          go_wp2_with (go_at_call 38; refine (HLD.out _).mono ?_; rintro e w8 ⟨rfl, rfl⟩)
          go_roundw
          case rel => exact ⟨i + 1, by omega, by go_num, HBr.out⟩
          case measure => simp [intOf]; omega
      · have qi : (3 : Int) ≤ (i : Int) := by omega
        go_wp2_with (go_at_call 35; refine (awake13 _).mono ?_; rintro e w8 ⟨rfl, hb8⟩)
        go_ret
        exact ⟨rfl, (HB7.out.trans (HBr.out.mono HB7.out.size)).trans (hb8.mono (Nat.le_trans HB7.out.size HBr.out.size))⟩
  · have hb : 100 < b.size := by omega
    clear big
    go_enter Try.func10, Try.ntmps10
    go_wp2_with (go_at_call 35; refine (awake13 _).mono ?_; rintro e w9 ⟨rfl, hb9⟩)
    go_ret
    exact ⟨rfl, hb9⟩
end Go.Proofs.Ytilehfdplgciiaa.Hand
