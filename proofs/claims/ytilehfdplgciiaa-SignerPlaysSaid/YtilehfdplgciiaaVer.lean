import Derived.Test.YtilehfdplgciiaaPm
import Derived.Test.YtilehfdplgciiaaTree
import Derived.Lib.ConvBytes
/-! merkle's Leaf, Check and Verify, walked. -/
namespace Go.Proofs.Ytilehfdplgciiaa.Hand
open Go.RowKit Go.Proofs.YtilehfdplgciiaaW.PrintWords Go.Proofs.Ytilehfdplgciiaa.PLM Go.Proofs.Ytilehfdplgciiaa.Plain
set_option linter.unusedVariables false
attribute [local go_sem ↓] Go.wp_at_zero Go.wp_at_succ

theorem or_nat (q k b : Nat) (hb : b < 2 ^ k) (hz : 2 ^ k * q + b < 9223372036854775808) : Go.bits .or .i64 ((2 ^ k * q : Nat) : Int) (b : Int) = ((2 ^ k * q + b : Nat) : Int) := by
  have key : (BitVec.ofInt 64 ((2 ^ k * q : Nat) : Int) ||| BitVec.ofInt 64 (b : Int)).toNat = 2 ^ k * q + b := by
    rw [BitVec.toNat_or, BitVec.toNat_ofInt, BitVec.toNat_ofInt, Nat.two_pow_add_eq_or_of_lt hb]
    have e : ((2 ^ 64 : Nat) : Int) = 18446744073709551616 := by decide
    rw [e]
    generalize 2 ^ k * q = a at *
    congr 1 <;> omega
  show IntKind.i64.wrap ((BitVec.ofInt 64 ((2 ^ k * q : Nat) : Int) ||| BitVec.ofInt 64 (b : Int)).toNat : Nat) = _
  rw [key, IntKind.wrap_i64]
  omega
theorem or_byte (x c : Int) (h0 : 0 ≤ x) (h1 : x < 1099511627776) (c0 : 0 ≤ c) (c1 : c ≤ 255) : Go.bits .or .i64 (x * 256) c = x * 256 + c := by
  obtain ⟨q, rfl⟩ := Int.eq_ofNat_of_zero_le h0
  obtain ⟨b, rfl⟩ := Int.eq_ofNat_of_zero_le c0
  have h := or_nat q 8 b (by omega) (by omega)
  have e1 : ((2 ^ 8 * q : Nat) : Int) = (q : Int) * 256 := by omega
  have e2 : ((2 ^ 8 * q + b : Nat) : Int) = (q : Int) * 256 + b := by omega
  rw [e1, e2] at h
  exact h
theorem bt_extract4 (s : ByteArray) (k : Nat) (hk : k < 4) (hs : 4 ≤ s.size) : bt (s.extract 0 4) (k : Int) = bt s (k : Int) := by
  rw [← rd_bytesOf, ← rd_bytesOf, bytesOf_extract]
  unfold rd
  rw [Int.toNat_natCast, List.getD_eq_getElem?_getD, List.getD_eq_getElem?_getD, List.drop_zero, List.getElem?_take_of_lt (by omega)]
theorem leaf_short (s : ByteArray) (hs : s.size < 4) (w : World) :
    Calls Try.prog 51 #[.string s] w fun e w' => e = .returned (.tuple #[.int .i64 0, .bool false]) ∧ w = w' := by
  go_enter Try.func51, Try.ntmps51
  go_wp2
  go_ret2
  exact ⟨rfl, rfl⟩
set_option maxHeartbeats 400000 in
set_option maxRecDepth 100000 in
theorem leaf_long (s : ByteArray) (hs : 4 ≤ s.size) (hs2 : s.size ≤ 140737488355328) (w : World) :
    Calls Try.prog 51 #[.string s] w fun e w' => e = .returned (.tuple #[.int .i64 (lfP s 4), .bool true]) ∧ Below w.heap.size w w' := by
  have hxz : (s.extract 0 4).size = 4 := by rw [ByteArray.size_extract]; omega
  have kb := fun W => print_bytes (P := Try.prog) 9 24 5 Try.underlying9 Try.underlying24 Try.underlying5 (s.extract 0 4) W
  have hR := bytes_reads w 5 (s.extract 0 4) (by omega)
  have hB := bytes_below (Below.refl w.heap.size w) (Nat.le_refl _) 5 (s.extract 0 4)
  have hbt := fun k hk => bt_extract4 s k hk hs
  have hbt2 : ∀ k : Nat, k < 4 → rd (bytesOf (s.extract 0 4)) (k : Int) = bt s (k : Int) := fun k hk => by rw [rd_bytesOf]; exact hbt k hk
  have HBT := Lib.hid hbt2
  have hlt : ¬ s.size < 4 := by omega
  rw [hxz] at kb hR
  clear hbt hbt2 hxz
  generalize bytesOf (s.extract 0 4) = xs at *
  go_enter Try.func51, Try.ntmps51
  go_upto_block 0 with fail
  have HR := Lib.hid hR
  have HB := Lib.hid hB
  clear hR hB kb
  generalize Lib.bytesWorld w 5 (s.extract 0 4) = w1 at *
  go_wp2
  go_loopw [4, 6, 14] (fun s4 _ s14 wr => ∃ k : Nat, k ≤ 4 ∧ s14 = .int .i64 k ∧ s4 = .int .i64 (lfP s k) ∧ Below w1.heap.size w1 wr) (fun _ _ s14 _ => (4 - intOf s14).toNat)
  case atStart => exact ⟨0, Nat.zero_le _, rfl, rfl, Below.refl _ _⟩
  case round =>
    obtain ⟨k, hk, rfl, rfl, hBr⟩ := hrel
    by_cases hlt4 : k < 4
    · obtain ⟨ad, ha, hc⟩ := (HR.out.below hBr).at_ (k : Int) (by omega) (by omega)
      injection ha with ha
      subst ha
      rw [add_plain, Int.toNat_natCast, HBT.out k hlt4] at hc
      have hr := lfP_range s k
      have hr4 : (256 : Int) ^ k ≤ 256 ^ 3 := by
        have := Nat.pow_le_pow_right (show 0 < 256 by decide) (show k ≤ 3 by omega)
        have e := Int.ofNat_le.2 this
        simpa using e
      have hb := bt_range s (k : Int)
      have q0 : (k : Int) < 4 := by omega
      have hx := lfP_range s k
      have hor := or_byte (lfP s k) (bt s (k : Int)) hx.1 (by omega) hb.1 hb.2
      have hnx : lfP s (k + 1) = lfP s k * 256 + bt s (k : Int) := rfl
      have HNX := Lib.hid hnx
      have hx0 := hx.1
      have hx1 : lfP s k < 16777216 := by omega
      have hb0 := hb.1
      have hb1 := hb.2
      clear hr hr4 hx hb hnx
      have HBr := Lib.hid hBr
      clear hBr
      generalize lfP s k = x at *
      generalize bt s (k : Int) = c at *
      go_wp2
      go_roundw
      case rel => exact ⟨k + 1, by omega, by go_num, by rw [HNX.out], HBr.out⟩
      case measure => simp [intOf]; omega
    · obtain rfl : k = 4 := by omega
      have HBr := Lib.hid hBr
      clear hBr
      go_wp2
      go_ret2
      exact ⟨rfl, HB.out.trans (HBr.out.mono HB.out.size)⟩
theorem check_any (h : Int) (id rt : ByteArray) (W : World) : Calls Try.prog 48 #[.agg #[.int .i64 h, .string id, .string rt]] W fun e w' => e = .returned (.int .i64 (if 0 ≤ h ∧ h ≤ 8 ∧ id.size = 16 ∧ rt.size = 16 then 0 else 18)) ∧ Below W.heap.size W w' := by
  refine merkle_Check.calls h id rt _ W ?_
  unfold merkle_Check.f
  by_cases h1 : h < 0
  · rw [if_pos h1, if_neg (by omega)]
  · rw [if_neg h1]
    by_cases h2 : h > 8
    · rw [if_pos h2, if_neg (by omega)]
    · rw [if_neg h2]
      by_cases h3 : (id.size : Int) = 16
      · rw [if_pos h3]
        by_cases h4 : (rt.size : Int) = 16
        · rw [if_pos h4, if_pos ⟨by omega, by omega, by omega, by omega⟩]
        · rw [if_neg h4, if_neg (by omega)]
      · rw [if_neg h3, if_neg (by omega)]
theorem rec_any (id : ByteArray) (leaf : Nat) (d sg : ByteArray) (h1 : id.size = 16) (h2 : leaf < 256) (h3 : d.size = 16) (h4 : sg.size = 560) (W : World) :
    Calls Try.prog 30 #[.string id, .int .i64 leaf, .string d, .string sg] W fun e w' => e = .returned (.tuple #[.string (recR id leaf d sg).1, .int .i64 0]) ∧ Below W.heap.size W w' :=
  ots_Recover.calls 60 id leaf d sg _ _ W (by rw [ots_rec_f id leaf d sg 60 (by decide), ← (recR_ok id leaf d sg h1 h2 h3 h4).1])
theorem bool_of {a b : ByteArray} : (a = b → (a.toList == b.toList) = true ∧ (a.toList != b.toList) = false) ∧ (a ≠ b → (a.toList == b.toList) = false ∧ (a.toList != b.toList) = true) := by
  have hinj : a.toList = b.toList → a = b := fun h => by
    rw [ByteArray.toList_eq, ByteArray.toList_eq] at h
    obtain ⟨⟨x⟩⟩ := a
    obtain ⟨⟨y⟩⟩ := b
    simp at h
    rw [h]
  constructor
  · rintro rfl
    simp
  · intro h
    have h2 : a.toList ≠ b.toList := fun e => h (hinj e)
    simp [h2]
theorem ext_ext (s : ByteArray) (l : Nat) (hl : 564 + 16 * l + 16 ≤ s.size) : (s.extract 564 s.size).extract (l * 16) ((l + 1) * 16) = s.extract (564 + 16 * l) (564 + 16 * l + 16) := by
  apply bytesOf_inj
  rw [bytesOf_extract, bytesOf_extract, bytesOf_extract, List.take_of_length_le (show ((bytesOf s).drop 564).length ≤ s.size - 564 by rw [List.length_drop, bytesOf_length]; omega), List.drop_drop]
  rw [show (l + 1) * 16 - l * 16 = 16 by omega, show 564 + 16 * l + 16 - (564 + 16 * l) = 16 by omega]
  congr 2
  omega
set_option maxHeartbeats 4000000 in
set_option maxRecDepth 100000 in
theorem ver_any (h : Int) (id rt m sig : ByteArray) (hm : m.size ≤ 1000) (hsg : sig.size ≤ 100000) (w : World) :
    Calls Try.prog 52 #[.agg #[.int .i64 h, .string id, .string rt], .string m, .string sig] w fun e w' => e = .returned (.int .i64 (verR h id rt m sig)) ∧ Below w.heap.size w w' := by
  have hg := heap_alloc_new w (.cells #[.int .i64 h, .string id, .string rt] 58)
  have hB := below_alloc (Below.refl w.heap.size w) (.cells #[.int .i64 h, .string id, .string rt] 58)
  have HG := Lib.hid hg
  have HB := Lib.hid hB
  clear hg hB
  unfold verR
  by_cases hk : 0 ≤ h ∧ h ≤ 8 ∧ id.size = 16 ∧ rt.size = 16
  · have hchk := fun W => check_any h id rt W
    rw [if_pos hk] at hchk ⊢
    obtain ⟨k0, k1, k2, k3⟩ := hk
    obtain ⟨n, rfl⟩ := Int.eq_ofNat_of_zero_le k0
    rw [Int.toNat_natCast]
    by_cases hz : (sig.size : Int) = 564 + 16 * (n : Int)
    · rw [if_pos hz]
      have hz1 : ((sig.size : Int) != 564 + (n : Int) * 16) = false := by simp; omega
      have h8 : n ≤ 8 := by omega
      obtain ⟨N, hN⟩ : ∃ N, N = 2 ^ n := ⟨_, rfl⟩
      have hpw : wrap64 ((2 : Int) ^ n) = (N : Int) := by rw [hN]; exact pow_w n h8
      have hN8 : N ≤ 256 := by rw [hN]; exact pow_le8 h8
      obtain ⟨lf, hlf⟩ : ∃ lf, lf = leafN sig := ⟨_, rfl⟩
      have hlP : lfP sig 4 = (lf : Int) := by rw [hlf]; unfold leafN; rw [Int.toNat_of_nonneg (lfP_range sig 4).1]
      have hleaf := fun W => leaf_long sig (by omega) (by omega) W
      simp only [hlP] at hleaf
      rw [← hlf, ← hN]
      have HN := Lib.hid hN
      have HLF := Lib.hid hlf
      have HLP := Lib.hid hlP
      have hzn : sig.size = 564 + 16 * n := by omega
      have HZN := Lib.hid hzn
      clear hN hlf hlP hz hzn
      by_cases hln : lf < N
      · rw [if_pos hln]
        obtain ⟨r, hr⟩ : ∃ r : Int, r = (if pathUp id sig lf (startV id rt m sig) n = rt then 0 else 17) := ⟨_, rfl⟩
        rw [← hr]
        have HR := Lib.hid hr
        clear hr
        have q1 : (lf : Int) < N := by omega
        have hl8 : lf < 256 := by omega
        have hdz := mdig_size id rt lf m
        have hsz : 564 ≤ sig.size := by
          have : ((sig.size : Int) != 564 + (n : Int) * 16) = false := hz1
          simp at this
          omega
        have hxz : (sig.extract 4 564).size = 560 := by rw [ByteArray.size_extract]; omega
        have HRZ := recR_ok id lf (mdig id rt lf m) (sig.extract 4 564) k2 hl8 hdz hxz
        have HV : startV id rt m sig = (recR id lf (mdig id rt lf m) (sig.extract 4 564)).1 := by unfold startV; rw [← HLF.out]
        have HPZ := pathUp_size id sig lf (startV id rt m sig) (by rw [HV]; exact HRZ.2)
        have H2 := Lib.hid k2
        have H3 := Lib.hid k3
        have HDZ := Lib.hid hdz
        have HXZ := Lib.hid hxz
        have HV2 := Lib.hid HV
        have HPZ2 := Lib.hid HPZ
        have HSZ := Lib.hid hsz
        have HLN := Lib.hid hln
        clear k2 k3 hdz hxz HRZ HV HPZ hln
        have p0 : (4 : Int) ≤ (564 : Int) := by decide
        have p1 : (564 : Int) ≤ (sig.size : Int) := by omega
        go_enter Try.func52, Try.ntmps52
        go_upto_region 9 with (first | (go_at_call 48; refine (hchk _).mono ?_; rintro e w2 ⟨rfl, hb2⟩; have hg2 := (hb2.block w.heap.size (blk_lt HG.out)).trans HG.out; have c0 := (blk_cell hg2 0).trans rfl) | (go_at_call 51; refine (hleaf _).mono ?_; rintro e w3 ⟨rfl, hb3⟩; have hg3 := (hb3.block w.heap.size (blk_lt hg2)).trans hg2; have d0 := (blk_cell hg3 0).trans rfl))
        have hB3 := (HB.out.trans (hb2.mono HB.out.size)).trans (hb3.mono (Nat.le_trans HB.out.size hb2.size))
        have e0 : w3.cell? ⟨w.heap.size, 0, none⟩ = some (.int .i64 n) := (blk_cell hg3 0).trans rfl
        have e1 : w3.cell? ⟨w.heap.size, 1, none⟩ = some (.string id) := (blk_cell hg3 1).trans rfl
        have e2 : w3.cell? ⟨w.heap.size, 2, none⟩ = some (.string rt) := (blk_cell hg3 2).trans rfl
        have HG3 := Lib.hid hg3
        have HB3 := Lib.hid hB3
        have HPW := Lib.hid hpw
        clear hg3 hB3 hb3 hb2 hg2 c0 d0 hpw hchk hleaf HG HB hz1
        go_region_held3 (fun w' => w'.cell? ⟨w.heap.size, 0, none⟩ = some (.int .i64 n) ∧ w'.cell? ⟨w.heap.size, 1, none⟩ = some (.string id) ∧ w'.cell? ⟨w.heap.size, 2, none⟩ = some (.string rt)) (go_keep) ((first
          | (go_at_call 83; refine (mdig_any n id rt lf m (by rw [H2.out]; decide) (by rw [H3.out]; decide) hm _).mono ?_; rintro e w4 ⟨rfl, hb4⟩; have f0 := (hb4.cell (p := ⟨w.heap.size, 0, none⟩) (World.block_lt_of_cell? _ _ e0)).trans e0; have f1 := (hb4.cell (p := ⟨w.heap.size, 1, none⟩) (World.block_lt_of_cell? _ _ e1)).trans e1; have f2 := (hb4.cell (p := ⟨w.heap.size, 2, none⟩) (World.block_lt_of_cell? _ _ e2)).trans e2)
          | (go_at_call 30; refine (rec_any id lf (mdig id rt lf m) (sig.extract 4 564) H2.out hl8 HDZ.out HXZ.out _).mono ?_; rintro e w5 ⟨rfl, hb5⟩; have g0 := (hb5.cell (p := ⟨w.heap.size, 0, none⟩) (World.block_lt_of_cell? _ _ f0)).trans f0; have g1 := (hb5.cell (p := ⟨w.heap.size, 1, none⟩) (World.block_lt_of_cell? _ _ f1)).trans f1; have g2 := (hb5.cell (p := ⟨w.heap.size, 2, none⟩) (World.block_lt_of_cell? _ _ f2)).trans f2)))
        have hB5 : Below w.heap.size w w5 := ((HB3.out.trans ((below_drew (Below.refl _ w3)).mono HB3.out.size)).trans (hb4.mono (show w.heap.size ≤ w3.drew.heap.size from HB3.out.size))).trans (hb5.mono (Nat.le_trans (show w.heap.size ≤ w3.drew.heap.size from HB3.out.size) hb4.size))
        have HB5 := Lib.hid hB5
        have HV0 := Lib.hid (show pathUp id sig lf (startV id rt m sig) 0 = (recR id lf (mdig id rt lf m) (sig.extract 4 564)).1 from HV2.out)
        clear hB5 hb4 hb5 e0 e1 e2 f0 f1 f2 HB3 HG3
        generalize (recR id lf (mdig id rt lf m) (sig.extract 4 564)).1 = v0 at *
        go_upto_block 0 with fail
        have hrs : (sig.extract 564 sig.size).size = 16 * n := by rw [ByteArray.size_extract]; have := HZN.out; omega
        have hxx : ∀ l, l < n → (sig.extract 564 sig.size).extract (l * 16) ((l + 1) * 16) = sig.extract (564 + 16 * l) (564 + 16 * l + 16) := fun l hl => ext_ext sig l (by have := HZN.out; omega)
        have HXX := Lib.hid hxx
        have HRS := Lib.hid hrs
        clear hxx hrs
        have hsz5 := HB5.out.size
        generalize sig.extract 564 sig.size = rs at *
        generalize startV id rt m sig = v1 at *
        go_wp2
        go_loopw [10, 13, 14, 15] (fun s10 s13 s14 _ wr => ∃ l : Nat, l ≤ n ∧ s13 = .int .i64 l ∧ s14 = .int .i64 ((lf / 2 ^ l : Nat) : Int) ∧ s10 = .string (pathUp id sig lf v1 l) ∧ Below w5.heap.size w5 wr) (fun _ s13 _ _ _ => (n - intOf s13).toNat)
        case atStart => exact ⟨0, Nat.zero_le _, rfl, by rw [Nat.pow_zero, Nat.div_one], by rw [← HV0.out], Below.refl _ _⟩
        case round =>
          obtain ⟨l, hl, rfl, rfl, rfl, hBr⟩ := hrel
          have c0 := (hBr.cell (p := ⟨w.heap.size, 0, none⟩) (World.block_lt_of_cell? _ _ g0)).trans g0
          have c1 := (hBr.cell (p := ⟨w.heap.size, 1, none⟩) (World.block_lt_of_cell? _ _ g1)).trans g1
          have c2 := (hBr.cell (p := ⟨w.heap.size, 2, none⟩) (World.block_lt_of_cell? _ _ g2)).trans g2
          have HBr := Lib.hid hBr
          clear hBr
          by_cases hlt : l < n
          · have q2 : (l : Int) < n := by omega
            have hi256 : lf / 2 ^ l < 256 := Nat.lt_of_le_of_lt (Nat.div_le_self _ _) hl8
            have hdv : lf / 2 ^ (l + 1) = lf / 2 ^ l / 2 := by rw [Nat.pow_succ, Nat.div_div_eq_div_mul]
            have hnx : pathUp id sig lf v1 (l + 1) = if lf / 2 ^ l % 2 = 0 then par id (l : Int) ((lf / 2 ^ l / 2 : Nat) : Int) (pathUp id sig lf v1 l) (sig.extract (564 + 16 * l) (564 + 16 * l + 16)) else par id (l : Int) ((lf / 2 ^ l / 2 : Nat) : Int) (sig.extract (564 + 16 * l) (564 + 16 * l + 16)) (pathUp id sig lf v1 l) := rfl
            have hpz := HPZ2.out l
            have hxz : (sig.extract (564 + 16 * l) (564 + 16 * l + 16)).size = 16 := by rw [ByteArray.size_extract]; have := HZN.out; omega
            rw [← HXX.out l hlt] at hnx hxz
            have hb1 : (l : Int) * 16 ≤ ((l : Int) + 1) * 16 := by omega
            have hb2 : ((l : Int) + 1) * 16 ≤ (rs.size : Int) := by rw [HRS.out]; omega
            have HDV := Lib.hid hdv
            have HNX := Lib.hid hnx
            have HPZ := Lib.hid hpz
            have HXZ2 := Lib.hid hxz
            clear hdv hnx hpz hxz
            generalize pathUp id sig lf v1 l = x at *
            generalize lf / 2 ^ l = i at *
            have q3 : (i : Int) < 256 := by omega
            have ep : (i : Int) / 2 = ((i / 2 : Nat) : Int) := by omega
            have EP := Lib.hid ep
            clear ep
            by_cases hpar : i % 2 = 0
            · have hq : ((i : Int) % 2 == 0) = true := by simp; omega
              have HPAR := Lib.hid hpar
              clear hpar
              go_wp2_with (go_at_call 85; refine (par_any id l ((i : Int) / 2) x (rs.extract (l * 16) ((l + 1) * 16)) (by rw [H2.out]; decide) (by rw [HPZ.out]; decide) (by rw [HXZ2.out]; decide) _).mono ?_; rintro e w6 ⟨rfl, hb6⟩)
              go_roundw
              case rel => exact ⟨l + 1, by omega, by go_num, by rw [HDV.out, ← EP.out], by rw [HNX.out, if_pos HPAR.out, EP.out], HBr.out.trans (hb6.mono HBr.out.size)⟩
              case measure => simp [intOf]; omega
            · have hq : ((i : Int) % 2 == 0) = false := by simp; omega
              have HPAR := Lib.hid hpar
              clear hpar
              go_wp2_with (go_at_call 85; refine (par_any id l ((i : Int) / 2) (rs.extract (l * 16) ((l + 1) * 16)) x (by rw [H2.out]; decide) (by rw [HXZ2.out]; decide) (by rw [HPZ.out]; decide) _).mono ?_; rintro e w6 ⟨rfl, hb6⟩)
              go_roundw
              case rel => exact ⟨l + 1, by omega, by go_num, by rw [HDV.out, ← EP.out], by rw [HNX.out, if_neg HPAR.out, EP.out], HBr.out.trans (hb6.mono HBr.out.size)⟩
              case measure => simp [intOf]; omega
          · obtain rfl : l = n := by omega
            have hBw := HB5.out.trans (HBr.out.mono HB5.out.size)
            have HBW := Lib.hid hBw
            clear hBw
            by_cases heq : pathUp id sig lf v1 l = rt
            · have hr0 : (0 : Int) = r := by rw [HR.out, if_pos heq]
              have HR0 := Lib.hid hr0
              clear hr0
              have hb := (bool_of (a := pathUp id sig lf v1 l) (b := rt)).1 heq
              obtain ⟨hb1, hb2⟩ := hb
              clear heq
              generalize pathUp id sig lf v1 l = x at *
              go_wp2
              go_ret
              exact ⟨ret_i64 HR0.out, HBW.out⟩
            · have hr0 : (17 : Int) = r := by rw [HR.out, if_neg heq]
              have HR0 := Lib.hid hr0
              clear hr0
              have hb := (bool_of (a := pathUp id sig lf v1 l) (b := rt)).2 heq
              obtain ⟨hb1, hb2⟩ := hb
              clear heq
              generalize pathUp id sig lf v1 l = x at *
              go_wp2
              go_ret
              exact ⟨ret_i64 HR0.out, HBW.out⟩
      · rw [if_neg hln]
        have q1 : (N : Int) ≤ (lf : Int) := by omega
        go_enter Try.func52, Try.ntmps52
        go_wp2_with (first | (go_at_call 48; refine (hchk _).mono ?_; rintro e w2 ⟨rfl, hb2⟩; have hg2 := (hb2.block w.heap.size (blk_lt HG.out)).trans HG.out; have c0 := (blk_cell hg2 0).trans rfl) | (go_at_call 51; refine (hleaf _).mono ?_; rintro e w3 ⟨rfl, hb3⟩; have hg3 := (hb3.block w.heap.size (blk_lt hg2)).trans hg2; have d0 := (blk_cell hg3 0).trans rfl))
        go_ret
        exact ⟨rfl, (HB.out.trans (hb2.mono HB.out.size)).trans (hb3.mono (Nat.le_trans HB.out.size hb2.size))⟩
    · rw [if_neg hz]
      have hz1 : ((sig.size : Int) != 564 + (n : Int) * 16) = true := by simp; omega
      go_enter Try.func52, Try.ntmps52
      go_wp2_with (go_at_call 48; refine (hchk _).mono ?_; rintro e w2 ⟨rfl, hb2⟩; have hg2 := (hb2.block w.heap.size (blk_lt HG.out)).trans HG.out; have c0 := (blk_cell hg2 0).trans rfl)
      go_ret
      exact ⟨rfl, HB.out.trans (hb2.mono HB.out.size)⟩
  · have hchk := fun W => check_any h id rt W
    rw [if_neg hk] at hchk ⊢
    clear hk
    go_enter Try.func52, Try.ntmps52
    go_wp2_with (go_at_call 48; refine (hchk _).mono ?_; rintro e w2 ⟨rfl, hb2⟩)
    go_ret
    exact ⟨rfl, HB.out.trans (hb2.mono HB.out.size)⟩
end Go.Proofs.Ytilehfdplgciiaa.Hand
/-! certpathlaw12.awake, walked: it returns true. -/
namespace Go.Proofs.Ytilehfdplgciiaa.Hand
open Go.RowKit Go.Proofs.YtilehfdplgciiaaW.PrintWords Go.Proofs.Ytilehfdplgciiaa.PLM Go.Proofs.Ytilehfdplgciiaa.Plain
set_option linter.unusedVariables false
attribute [local go_sem ↓] Go.wp_at_zero Go.wp_at_succ

theorem Kp.below_at {w0 w1 w2 : World} {g : Nat} (k : Kp (fun k => k = g) w1 w2) (h : Below w0.heap.size w0 w1) (hg : w0.heap.size ≤ g) : Below w0.heap.size w0 w2 := k.below h h.size (fun i hi => by rw [hi]; exact hg)
theorem ver_true (s : ByteArray) (h lf : Nat) (m : ByteArray) (h8 : h ≤ 8) (hs : s.size = 32) (hl : lf < 2 ^ h) (hm : m.size ≤ 1000) (W : World) :
    Calls Try.prog 52 #[.agg #[.int .i64 h, .string (nameOf s), .string (root s h)], .string m, .string (sigR s h lf m)] W fun e w' => e = .returned (.int .i64 0) ∧ Below W.heap.size W w' := by
  have hz := sigL_size s h lf m h8 hs hl h (Nat.le_refl _)
  have hv := ver_any h (nameOf s) (root s h) m (sigR s h lf m) hm (by show (sigL s h lf m h).size ≤ _; rw [hz]; omega) W
  rw [ver_own s h lf m h8 hs hl] at hv
  exact hv
def msg7 : ByteArray := ⟨#[109, 101, 115, 115, 97, 103, 101]⟩
set_option maxHeartbeats 1000000 in
set_option maxRecDepth 100000 in
theorem awake12 (w : World) : Calls Try.prog 41 #[] w fun e w' => e = .returned (.bool true) ∧ Below w.heap.size w w' := by
  have hs := seed_size 1
  have hgen : ∀ W : World, Calls Try.prog 40 #[.string (seed 1), .int .i64 1] W fun e w' => ∃ g : Nat, e = .returned (.tuple #[.pointer (some ⟨g, 0, none⟩), .int .i64 0]) ∧ TS w' g (seed 1) 1 ∧ W.heap.size ≤ g ∧ Below W.heap.size W w' := fun W => gen_any W (seed 1) 1 hs (by decide)
  have hsign : ∀ (W : World) (g : Nat), TS W g (seed 1) 1 → Calls Try.prog 47 #[.pointer (some ⟨g, 0, none⟩), .int .i64 1, .string ⟨#[109, 101, 115, 115, 97, 103, 101]⟩] W fun e w' => e = .returned (.tuple #[.string (sigR (seed 1) 1 1 msg7), .int .i64 0]) ∧ (∃ v, TG w' g (seed 1) 1 v) ∧ Kp (fun k => k = g) W w' := fun W g t => sign_in W g (seed 1) 1 1 msg7 t hs (by decide) (by decide) (by decide)
  have hkey : ∀ (W : World) (g : Nat), TS W g (seed 1) 1 → Calls Try.prog 42 #[.pointer (some ⟨g, 0, none⟩)] W fun e w' => e = .returned (.agg #[.int .i64 1, .string (nameOf (seed 1)), .string (root (seed 1) 1)]) ∧ (∃ v, TG w' g (seed 1) 1 v) ∧ Kp (fun k => k = g) W w' := fun W g t => key_lit W g (seed 1) 1 t hs (by decide)
  have hver : ∀ W : World, Calls Try.prog 52 #[.agg #[.int .i64 1, .string (nameOf (seed 1)), .string (root (seed 1) 1)], .string ⟨#[109, 101, 115, 115, 97, 103, 101]⟩, .string (sigR (seed 1) 1 1 msg7)] W fun e w' => e = .returned (.int .i64 0) ∧ Below W.heap.size W w' := fun W => ver_true (seed 1) 1 1 msg7 (by decide) hs (by decide) (by decide) W
  have hz : (sigR (seed 1) 1 1 msg7).size = 580 := sigL_size (seed 1) 1 1 msg7 (by decide) hs (by decide) 1 (Nat.le_refl _)
  have hzb : (((sigR (seed 1) 1 1 msg7).size : Int) == 580) = true := by rw [hz]; rfl
  clear hz hs
  have HS := Lib.hid hsign
  have HK := Lib.hid hkey
  clear hsign hkey
  generalize sigR (seed 1) 1 1 msg7 = sg at *
  generalize root (seed 1) 1 = rt at *
  generalize nameOf (seed 1) = id at *
  go_enter Try.func41, Try.ntmps41
  go_wp2_with (first
    | (go_at_call 28; refine (seed_any 1 _).mono ?_; rintro e w1 ⟨rfl, hb1⟩)
    | (go_at_call 40; refine (hgen _).mono ?_; rintro e w2 ⟨g, rfl, ht2, hg2, hb2⟩; have HT2 := Lib.hid ht2; have HG2 := Lib.hid hg2; have HB2 := Lib.hid (hb1.trans (hb2.mono hb1.size)); clear ht2 hg2 hb2)
    | (go_at_call 47; refine (HS.out _ g HT2.out).mono ?_; rintro e w3 ⟨rfl, ht3, hk3⟩; have HT3 := Lib.hid ht3; have HB3 := Lib.hid (hk3.below_at HB2.out (Nat.le_trans hb1.size HG2.out)); clear ht3 hk3)
    | (go_at_call 42; refine (HK.out _ g HT3.out.choose_spec.ts).mono ?_; rintro e w4 ⟨rfl, ht4, hk4⟩; have HB4 := Lib.hid (hk4.below_at HB3.out (Nat.le_trans hb1.size HG2.out)); clear ht4 hk4)
    | (go_at_call 52; refine (hver _).mono ?_; rintro e w5 ⟨rfl, hb5⟩))
  go_ret
  exact ⟨rfl, HB4.out.trans (hb5.mono HB4.out.size)⟩
end Go.Proofs.Ytilehfdplgciiaa.Hand
