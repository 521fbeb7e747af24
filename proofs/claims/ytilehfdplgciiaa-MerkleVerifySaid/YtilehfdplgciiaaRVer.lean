import Derived.Test.YtilehfdplgciiaaLErr
import Derived.Test.YtilehfdplgciiaaRRef
/-! The reference's Leaf and Verify, walked. -/
namespace Go.Proofs.Ytilehfdplgciiaa.Hand
open Go.RowKit Go.Proofs.YtilehfdplgciiaaW.PrintWords Go.Proofs.Ytilehfdplgciiaa.PLM Go.Proofs.Ytilehfdplgciiaa.Plain
set_option linter.unusedVariables false
attribute [local go_sem ↓] Go.wp_at_zero Go.wp_at_succ

/-- What Leaf returns. -/
def lfV (s : ByteArray) : Int := if s.size < 4 then 0 else lfP s 4
def lfB (s : ByteArray) : Bool := if s.size < 4 then false else true
theorem or_four (a b c d : Nat) (ha : a ≤ 255) (hb : b ≤ 255) (hc : c ≤ 255) (hd : d ≤ 255) :
    Go.bits .or .i64 (Go.bits .or .i64 (Go.bits .or .i64 (wrap64 ((wrap64 (a : Int)) * 16777216)) (wrap64 ((wrap64 (b : Int)) * 65536))) (wrap64 ((wrap64 (c : Int)) * 256))) (wrap64 (d : Int)) = ((((a : Int) * 256 + b) * 256 + c) * 256 + d) := by
  have w0 : ∀ x : Nat, x ≤ 255 → wrap64 (x : Int) = (x : Int) := fun x h => by unfold wrap64; omega
  rw [w0 a ha, w0 b hb, w0 c hc, w0 d hd]
  have e1 : wrap64 ((a : Int) * 16777216) = ((2 ^ 24 * a : Nat) : Int) := by unfold wrap64; omega
  have e2 : wrap64 ((b : Int) * 65536) = ((b * 65536 : Nat) : Int) := by unfold wrap64; omega
  have e3 : wrap64 ((c : Int) * 256) = ((c * 256 : Nat) : Int) := by unfold wrap64; omega
  rw [e1, e2, e3, or_nat a 24 (b * 65536) (by omega) (by omega)]
  rw [show 2 ^ 24 * a + b * 65536 = 2 ^ 16 * (a * 256 + b) by omega, or_nat (a * 256 + b) 16 (c * 256) (by omega) (by omega)]
  rw [show 2 ^ 16 * (a * 256 + b) + c * 256 = 2 ^ 8 * ((a * 256 + b) * 256 + c) by omega, or_nat ((a * 256 + b) * 256 + c) 8 d (by omega) (by omega)]
  omega
theorem rleaf_f (s : ByteArray) : certpathref11_Leaf.f s = some (lfV s, lfB s) := by
  unfold certpathref11_Leaf.f lfV lfB
  by_cases h : s.size < 4
  · rw [if_pos (by omega), if_pos h, if_pos h]
  · rw [if_neg (by omega), if_neg h, if_neg h, if_pos (by omega), if_pos (by omega), if_pos (by omega), if_pos (by omega)]
    have r0 := bt_range s 0
    have r1 := bt_range s 1
    have r2 := bt_range s 2
    have r3 := bt_range s 3
    have hl : lfP s 4 = ((bt s 0 * 256 + bt s 1) * 256 + bt s 2) * 256 + bt s 3 := by
      show (((0 * 256 + bt s ((0 : Nat) : Int)) * 256 + bt s ((1 : Nat) : Int)) * 256 + bt s ((2 : Nat) : Int)) * 256 + bt s ((3 : Nat) : Int) = _
      rw [Int.zero_mul, Int.zero_add]
      rfl
    rw [hl]
    obtain ⟨a, ha⟩ := Int.eq_ofNat_of_zero_le r0.1
    obtain ⟨b, hb⟩ := Int.eq_ofNat_of_zero_le r1.1
    obtain ⟨c, hc⟩ := Int.eq_ofNat_of_zero_le r2.1
    obtain ⟨d, hd⟩ := Int.eq_ofNat_of_zero_le r3.1
    rw [ha, hb, hc, hd, or_four a b c d (by omega) (by omega) (by omega) (by omega)]
theorem rleaf_any (s : ByteArray) (W : World) : Calls Try.prog 54 #[.string s] W fun e w' => e = .returned (.tuple #[.int .i64 (lfV s), .bool (lfB s)]) ∧ Below W.heap.size W w' := by
  refine (certpathref11_Leaf.calls s _ _ W (rleaf_f s)).mono ?_
  rintro e w' ⟨rfl, hd⟩
  obtain ⟨n, rfl⟩ := hd.out
  exact ⟨rfl, pw_below_drewN (Below.refl _ _) n⟩
theorem leaf_any (s : ByteArray) (hs2 : s.size ≤ 140737488355328) (W : World) : Calls Try.prog 51 #[.string s] W fun e w' => e = .returned (.tuple #[.int .i64 (lfV s), .bool (lfB s)]) ∧ Below W.heap.size W w' := by
  unfold lfV lfB
  by_cases h : s.size < 4
  · rw [if_pos h, if_pos h]
    refine (leaf_short s h W).mono ?_
    rintro e w' h
    first | exact h | exact ⟨h.1, by rw [← h.2]; exact Below.refl _ _⟩ | exact ⟨h.1, by rw [h.2]; exact Below.refl _ _⟩
  · rw [if_neg h, if_neg h]
    exact leaf_long s (by omega) hs2 W
theorem rrec_any (id : ByteArray) (leaf : Nat) (d sg : ByteArray) (h1 : id.size = 16) (h2 : leaf < 256) (h3 : d.size = 16) (h4 : sg.size = 560) (W : World) :
    Calls Try.prog 31 #[.string id, .int .i64 leaf, .string d, .string sg] W fun e w' => e = .returned (.tuple #[.string (recR id leaf d sg).1, .int .i64 0]) ∧ Below W.heap.size W w' :=
  certpathref11_Recover.calls 61 id leaf d sg _ _ W (by rw [ref_rec_f id leaf d sg 61 (by decide), ← (recR_ok id leaf d sg h1 h2 h3 h4).1])
theorem lfV_range (s : ByteArray) : 0 ≤ lfV s ∧ lfV s < 4294967296 := by
  unfold lfV
  split
  · exact ⟨by decide, by decide⟩
  · exact lfP_range s 4
set_option maxHeartbeats 4000000 in
set_option maxRecDepth 100000 in
theorem rver_any (h : Int) (id rt m sig : ByteArray) (hm : m.size ≤ 1000) (hsg : sig.size ≤ 100000) (w : World) :
    Calls Try.prog 53 #[.agg #[.int .i64 h, .string id, .string rt], .string m, .string sig] w fun e w' => e = .returned (.int .i64 (verR h id rt m sig)) ∧ Below w.heap.size w w' := by
  have hg := heap_alloc_new w (.cells #[.int .i64 h, .string id, .string rt] 58)
  have hB := below_alloc (Below.refl w.heap.size w) (.cells #[.int .i64 h, .string id, .string rt] 58)
  have HG := Lib.hid hg
  have HB := Lib.hid hB
  clear hg hB
  unfold verR
  by_cases hk : 0 ≤ h ∧ h ≤ 8 ∧ id.size = 16 ∧ rt.size = 16
  · have hchk := fun W => rcheck_any h id rt W
    rw [if_pos hk] at hchk ⊢
    obtain ⟨k0, k1, k2, k3⟩ := hk
    obtain ⟨n, rfl⟩ := Int.eq_ofNat_of_zero_le k0
    rw [Int.toNat_natCast]
    have hleaf := fun W => rleaf_any sig W
    by_cases hz : (sig.size : Int) = 564 + 16 * (n : Int)
    · rw [if_pos hz]
      have hz1 : ((sig.size : Int) != 564 + (n : Int) * 16) = false := by simp; omega
      have h8 : n ≤ 8 := by omega
      obtain ⟨N, hN⟩ : ∃ N, N = 2 ^ n := ⟨_, rfl⟩
      have hpw : wrap64 ((2 : Int) ^ n) = (N : Int) := by rw [hN]; exact pow_w n h8
      have hN8 : N ≤ 256 := by rw [hN]; exact pow_le8 h8
      obtain ⟨lf, hlf⟩ : ∃ lf, lf = leafN sig := ⟨_, rfl⟩
      have hlP : lfV sig = (lf : Int) := by rw [hlf]; unfold leafN lfV; rw [if_neg (by omega), Int.toNat_of_nonneg (lfP_range sig 4).1]
      simp only [hlP] at hleaf
      rw [← hlf, ← hN]
      have HN := Lib.hid hN
      have HLF := Lib.hid hlf
      have HLP := Lib.hid hlP
      have hzn : sig.size = 564 + 16 * n := by omega
      have HZN := Lib.hid hzn
      generalize lfB sig = lb at *
      clear hN hlf hlP hz hzn
      by_cases hln : lf < N
      · rw [if_pos hln]
        obtain ⟨r, hr⟩ : ∃ r : Int, r = (if pathUp id sig lf (startV id rt m sig) n = rt then 0 else 17) := ⟨_, rfl⟩
        rw [← hr]
        have HR := Lib.hid hr
        clear hr
        have q1 : (lf : Int) < N := by omega
        have hl8 : lf < 256 := by omega
        have hdz := mdig_size id rt lf m
        have hsz : 564 ≤ sig.size := by
          have : ((sig.size : Int) != 564 + (n : Int) * 16) = false := hz1
          simp at this
          omega
        have hxz : (sig.extract 4 564).size = 560 := by rw [ByteArray.size_extract]; omega
        have HRZ := recR_ok id lf (mdig id rt lf m) (sig.extract 4 564) k2 hl8 hdz hxz
        have HV : startV id rt m sig = (recR id lf (mdig id rt lf m) (sig.extract 4 564)).1 := by unfold startV; rw [← HLF.out]
        have HPZ := pathUp_size id sig lf (startV id rt m sig) (by rw [HV]; exact HRZ.2)
        have H2 := Lib.hid k2
        have H3 := Lib.hid k3
        have HDZ := Lib.hid hdz
        have HXZ := Lib.hid hxz
        have HV2 := Lib.hid HV
        have HPZ2 := Lib.hid HPZ
        have HSZ := Lib.hid hsz
        have HLN := Lib.hid hln
        clear k2 k3 hdz hxz HRZ HV HPZ hln
        have p0 : (4 : Int) ≤ (564 : Int) := by decide
        have p1 : (564 : Int) ≤ (sig.size : Int) := by omega
        go_enter Try.func53, Try.ntmps53
        go_upto_region 8 with (first | (go_at_call 49; refine (hchk _).mono ?_; rintro e w2 ⟨rfl, hb2⟩; have hg2 := (hb2.block w.heap.size (blk_lt HG.out)).trans HG.out; have c0 := (blk_cell hg2 0).trans rfl) | (go_at_call 54; refine (hleaf _).mono ?_; rintro e w3 ⟨rfl, hb3⟩; have hg3 := (hb3.block w.heap.size (blk_lt hg2)).trans hg2; have d0 := (blk_cell hg3 0).trans rfl))
        have hB3 := (HB.out.trans (hb2.mono HB.out.size)).trans (hb3.mono (Nat.le_trans HB.out.size hb2.size))
        have e0 : w3.cell? ⟨w.heap.size, 0, none⟩ = some (.int .i64 n) := (blk_cell hg3 0).trans rfl
        have e1 : w3.cell? ⟨w.heap.size, 1, none⟩ = some (.string id) := (blk_cell hg3 1).trans rfl
        have e2 : w3.cell? ⟨w.heap.size, 2, none⟩ = some (.string rt) := (blk_cell hg3 2).trans rfl
        have HG3 := Lib.hid hg3
        have HB3 := Lib.hid hB3
        have HPW := Lib.hid hpw
        clear hg3 hB3 hb3 hb2 hg2 c0 d0 hpw hchk hleaf HG HB hz1
        have H2z : id.size ≤ 1000 := by rw [H2.out]; decide
        have H3z : rt.size ≤ 1000 := by rw [H3.out]; decide
        go_region_held3 (fun w' => w'.cell? ⟨w.heap.size, 0, none⟩ = some (.int .i64 n) ∧ w'.cell? ⟨w.heap.size, 1, none⟩ = some (.string id) ∧ w'.cell? ⟨w.heap.size, 2, none⟩ = some (.string rt)) (go_keep) ((first
          | (go_at_call 70; refine (rb4_any lf _).mono ?_; rintro e w4 ⟨rfl, hb4⟩; have f0 := (hb4.cell (p := ⟨w.heap.size, 0, none⟩) (World.block_lt_of_cell? _ _ e0)).trans e0; have f1 := (hb4.cell (p := ⟨w.heap.size, 1, none⟩) (World.block_lt_of_cell? _ _ e1)).trans e1; have f2 := (hb4.cell (p := ⟨w.heap.size, 2, none⟩) (World.block_lt_of_cell? _ _ e2)).trans e2)
          | (go_at_call 65; refine (rdig_any id rt lf m H2z H3z hm _ 5 (Nat.le_refl _) _ (strs_row (xs := [⟨#[77]⟩, id, rt, b4 lf, m]) (heap_alloc_new w4 _) (by simp [maxLen]))).mono ?_; rintro e w5 ⟨rfl, hb5⟩; have hb45 : Below w4.heap.size w4 w5 := (below_alloc (Below.refl w4.heap.size w4) _).trans (hb5.mono (by simp)); have g0 := (hb45.cell (p := ⟨w.heap.size, 0, none⟩) (World.block_lt_of_cell? _ _ f0)).trans f0; have g1 := (hb45.cell (p := ⟨w.heap.size, 1, none⟩) (World.block_lt_of_cell? _ _ f1)).trans f1; have g2 := (hb45.cell (p := ⟨w.heap.size, 2, none⟩) (World.block_lt_of_cell? _ _ f2)).trans f2)
          | (go_at_call 31; refine (rrec_any id lf (mdig id rt lf m) (sig.extract 4 564) H2.out hl8 HDZ.out HXZ.out _).mono ?_; rintro e w6 ⟨rfl, hb6⟩; have i0 := (hb6.cell (p := ⟨w.heap.size, 0, none⟩) (World.block_lt_of_cell? _ _ g0)).trans g0; have i1 := (hb6.cell (p := ⟨w.heap.size, 1, none⟩) (World.block_lt_of_cell? _ _ g1)).trans g1; have i2 := (hb6.cell (p := ⟨w.heap.size, 2, none⟩) (World.block_lt_of_cell? _ _ g2)).trans g2)))
        have hz4 : w3.heap.size ≤ w4.heap.size := hb4.size
        have hb36 : Below w3.heap.size w3 w6 := (((below_drew (Below.refl w3.heap.size w3)).trans hb4).trans (hb45.mono hz4)).trans (hb6.mono (Nat.le_trans hz4 hb45.size))
        have HB6 := Lib.hid (HB3.out.trans (hb36.mono HB3.out.size))
        have HV0 := Lib.hid (show pathUp id sig lf (startV id rt m sig) 0 = (recR id lf (mdig id rt lf m) (sig.extract 4 564)).1 from HV2.out)
        clear hb36 hb4 hb45 hb5 hb6 hz4 e0 e1 e2 f0 f1 f2 g0 g1 g2 HB3 HG3
        generalize (recR id lf (mdig id rt lf m) (sig.extract 4 564)).1 = v0 at *
        generalize startV id rt m sig = v1 at *
        have hsz6 := HB6.out.size
        go_wp2
        go_loopw [11, 13, 14, 15] (fun s11 s13 _ _ wr => ∃ l : Nat, l ≤ n ∧ s13 = .int .i64 l ∧ s11 = .string (pathUp id sig lf v1 l) ∧ Below w6.heap.size w6 wr) (fun _ s13 _ _ _ => (n - intOf s13).toNat)
        case atStart => exact ⟨0, Nat.zero_le _, rfl, by rw [← HV0.out], Below.refl _ _⟩
        case round =>
          obtain ⟨l, hl, rfl, rfl, hBr⟩ := hrel
          have c0 := (hBr.cell (p := ⟨w.heap.size, 0, none⟩) (World.block_lt_of_cell? _ _ i0)).trans i0
          have c1 := (hBr.cell (p := ⟨w.heap.size, 1, none⟩) (World.block_lt_of_cell? _ _ i1)).trans i1
          have c2 := (hBr.cell (p := ⟨w.heap.size, 2, none⟩) (World.block_lt_of_cell? _ _ i2)).trans i2
          have HBr := Lib.hid hBr
          clear hBr
          by_cases hlt : l < n
          · have q2 : (l : Int) < n := by omega
            have hi256 : lf / 2 ^ l < 256 := Nat.lt_of_le_of_lt (Nat.div_le_self _ _) hl8
            have hnx : pathUp id sig lf v1 (l + 1) = if lf / 2 ^ l % 2 = 0 then par id (l : Int) ((lf / 2 ^ l / 2 : Nat) : Int) (pathUp id sig lf v1 l) (sig.extract (564 + 16 * l) (564 + 16 * l + 16)) else par id (l : Int) ((lf / 2 ^ l / 2 : Nat) : Int) (sig.extract (564 + 16 * l) (564 + 16 * l + 16)) (pathUp id sig lf v1 l) := rfl
            have hpz := HPZ2.out l
            have hxz : (sig.extract (564 + 16 * l) (564 + 16 * l + 16)).size = 16 := by rw [ByteArray.size_extract]; have := HZN.out; omega
            have hdi : (lf : Int) / 2 ^ l = ((lf / 2 ^ l : Nat) : Int) := by simp
            have ha1 : (564 : Int) + (l : Int) * 16 ≤ 564 + ((l : Int) + 1) * 16 := by omega
            have ha2 : (564 : Int) + ((l : Int) + 1) * 16 ≤ (sig.size : Int) := by have := HZN.out; omega
            have HNX := Lib.hid hnx
            have HPZ := Lib.hid (show (pathUp id sig lf v1 l).size ≤ 1000 by rw [hpz]; decide)
            have HXZ2 := Lib.hid (show (sig.extract (564 + 16 * l) (564 + 16 * l + 16)).size ≤ 1000 by rw [hxz]; decide)
            have hex : sig.extract (564 + l * 16) (564 + (l + 1) * 16) = sig.extract (564 + 16 * l) (564 + 16 * l + 16) := by congr 1 <;> omega
            clear hnx hpz hxz
            generalize sig.extract (564 + 16 * l) (564 + 16 * l + 16) = y at *
            generalize pathUp id sig lf v1 l = x at *
            generalize lf / 2 ^ l = i at *
            have q3 : (i : Int) < 256 := by omega
            have ep : (i : Int) / 2 = ((i / 2 : Nat) : Int) := by omega
            have EP := Lib.hid ep
            clear ep
            by_cases hpar : i % 2 = 0
            · have hq : ((i : Int) % 2 == 1) = false := by simp; omega
              have HPAR := Lib.hid hpar
              clear hpar
              go_upto_region 16 with fail
              obtain ⟨j, hj⟩ : ∃ j, j = i / 2 := ⟨_, rfl⟩
              have htd : Int.tdiv (i : Int) 2 = (j : Int) := by rw [Int.tdiv_eq_ediv_of_nonneg (by omega)]; omega
              have hwj : IntKind.i64.wrap (j : Int) = (j : Int) := IntWalk.i64_in _ (by omega)
              have HJ := Lib.hid hj
              clear hj
              go_region_held3 (fun w' => w'.cell? ⟨w.heap.size, 1, none⟩ = some (.string id)) (go_keep) ((first
                | (go_at_call 77; refine (rb1_any l _).mono ?_; rintro e w7 ⟨rfl, hb7⟩; have e1 := (hb7.cell (p := ⟨w.heap.size, 1, none⟩) (World.block_lt_of_cell? _ _ c1)).trans c1)
                | (go_at_call 70; refine (rb4_any j _).mono ?_; rintro e w8 ⟨rfl, hb8⟩; have f1 := (hb8.cell (p := ⟨w.heap.size, 1, none⟩) (World.block_lt_of_cell? _ _ e1)).trans e1)
                | (go_at_call 65; refine (rpar_any id l j x y H2z HPZ.out HXZ2.out _ 6 (Nat.le_refl _) _ (strs_row (xs := [⟨#[78]⟩, id, b1 l, b4 j, x, y]) (heap_alloc_new w8 _) (by simp [maxLen]))).mono ?_; rintro e w9 ⟨rfl, hb9⟩; have hb89 : Below w8.heap.size w8 w9 := (below_alloc (Below.refl w8.heap.size w8) _).trans (hb9.mono (by simp)); have g1 := (hb89.cell (p := ⟨w.heap.size, 1, none⟩) (World.block_lt_of_cell? _ _ f1)).trans f1)))
              have hz7 : wr.heap.size ≤ w7.heap.size := hb7.size
              have hbr9 : Below wr.heap.size wr w9 := (((below_drew (Below.refl wr.heap.size wr)).trans hb7).trans (hb8.mono hz7)).trans (hb89.mono (Nat.le_trans hz7 hb8.size))
              have HBR9 := Lib.hid hbr9
              clear hb7 hb8 hb9 hb89 hz7 hbr9 htd hwj
              go_wp2
              go_roundw
              case rel => exact ⟨l + 1, by omega, by go_num, by rw [HNX.out, if_pos HPAR.out, ← HJ.out], HBr.out.trans (HBR9.out.mono HBr.out.size)⟩
              case measure => simp [intOf]; omega
            · have hq : ((i : Int) % 2 == 1) = true := by simp; omega
              have HPAR := Lib.hid hpar
              clear hpar
              go_upto_region 15 with fail
              obtain ⟨j, hj⟩ : ∃ j, j = i / 2 := ⟨_, rfl⟩
              have htd : Int.tdiv (i : Int) 2 = (j : Int) := by rw [Int.tdiv_eq_ediv_of_nonneg (by omega)]; omega
              have hwj : IntKind.i64.wrap (j : Int) = (j : Int) := IntWalk.i64_in _ (by omega)
              have HJ := Lib.hid hj
              clear hj
              go_region_held3 (fun w' => w'.cell? ⟨w.heap.size, 1, none⟩ = some (.string id)) (go_keep) ((first
                | (go_at_call 77; refine (rb1_any l _).mono ?_; rintro e w7 ⟨rfl, hb7⟩; have e1 := (hb7.cell (p := ⟨w.heap.size, 1, none⟩) (World.block_lt_of_cell? _ _ c1)).trans c1)
                | (go_at_call 70; refine (rb4_any j _).mono ?_; rintro e w8 ⟨rfl, hb8⟩; have f1 := (hb8.cell (p := ⟨w.heap.size, 1, none⟩) (World.block_lt_of_cell? _ _ e1)).trans e1)
                | (go_at_call 65; refine (rpar_any id l j y x H2z HXZ2.out HPZ.out _ 6 (Nat.le_refl _) _ (strs_row (xs := [⟨#[78]⟩, id, b1 l, b4 j, y, x]) (heap_alloc_new w8 _) (by simp [maxLen]))).mono ?_; rintro e w9 ⟨rfl, hb9⟩; have hb89 : Below w8.heap.size w8 w9 := (below_alloc (Below.refl w8.heap.size w8) _).trans (hb9.mono (by simp)); have g1 := (hb89.cell (p := ⟨w.heap.size, 1, none⟩) (World.block_lt_of_cell? _ _ f1)).trans f1)))
              have hz7 : wr.heap.size ≤ w7.heap.size := hb7.size
              have hbr9 : Below wr.heap.size wr w9 := (((below_drew (Below.refl wr.heap.size wr)).trans hb7).trans (hb8.mono hz7)).trans (hb89.mono (Nat.le_trans hz7 hb8.size))
              have HBR9 := Lib.hid hbr9
              clear hb7 hb8 hb9 hb89 hz7 hbr9 htd hwj
              go_wp2
              go_roundw
              case rel => exact ⟨l + 1, by omega, by go_num, by rw [HNX.out, if_neg HPAR.out, ← HJ.out], HBr.out.trans (HBR9.out.mono HBr.out.size)⟩
              case measure => simp [intOf]; omega
          · obtain rfl : l = n := by omega
            have hBw := HB6.out.trans (HBr.out.mono HB6.out.size)
            have HBW := Lib.hid hBw
            clear hBw
            by_cases heq : pathUp id sig lf v1 l = rt
            · have hr0 : (0 : Int) = r := by rw [HR.out, if_pos heq]
              have HR0 := Lib.hid hr0
              clear hr0
              have hb := (bool_of (a := pathUp id sig lf v1 l) (b := rt)).1 heq
              obtain ⟨hb1, hb2⟩ := hb
              clear heq
              generalize pathUp id sig lf v1 l = x at *
              go_wp2
              go_ret
              exact ⟨ret_i64 HR0.out, HBW.out⟩
            · have hr0 : (17 : Int) = r := by rw [HR.out, if_neg heq]
              have HR0 := Lib.hid hr0
              clear hr0
              have hb := (bool_of (a := pathUp id sig lf v1 l) (b := rt)).2 heq
              obtain ⟨hb1, hb2⟩ := hb
              clear heq
              generalize pathUp id sig lf v1 l = x at *
              go_wp2
              go_ret
              exact ⟨ret_i64 HR0.out, HBW.out⟩
      · rw [if_neg hln]
        have q1 : (N : Int) ≤ (lf : Int) := by omega
        go_enter Try.func53, Try.ntmps53
        go_wp2_with (first | (go_at_call 49; refine (hchk _).mono ?_; rintro e w2 ⟨rfl, hb2⟩; have hg2 := (hb2.block w.heap.size (blk_lt HG.out)).trans HG.out; have c0 := (blk_cell hg2 0).trans rfl) | (go_at_call 54; refine (hleaf _).mono ?_; rintro e w3 ⟨rfl, hb3⟩; have hg3 := (hb3.block w.heap.size (blk_lt hg2)).trans hg2; have d0 := (blk_cell hg3 0).trans rfl))
        go_ret
        exact ⟨rfl, (HB.out.trans (hb2.mono HB.out.size)).trans (hb3.mono (Nat.le_trans HB.out.size hb2.size))⟩
    · rw [if_neg hz]
      have hz1 : ((sig.size : Int) != 564 + (n : Int) * 16) = true := by simp; omega
      have hlr := lfV_range sig
      generalize lfV sig = lv at *
      generalize lfB sig = lb at *
      go_enter Try.func53, Try.ntmps53
      go_wp2_with (first | (go_at_call 49; refine (hchk _).mono ?_; rintro e w2 ⟨rfl, hb2⟩; have hg2 := (hb2.block w.heap.size (blk_lt HG.out)).trans HG.out; have c0 := (blk_cell hg2 0).trans rfl) | (go_at_call 54; refine (hleaf _).mono ?_; rintro e w3 ⟨rfl, hb3⟩; have hg3 := (hb3.block w.heap.size (blk_lt hg2)).trans hg2; have d0 := (blk_cell hg3 0).trans rfl))
      go_ret
      exact ⟨rfl, (HB.out.trans (hb2.mono HB.out.size)).trans (hb3.mono (Nat.le_trans HB.out.size hb2.size))⟩
  · have hchk := fun W => rcheck_any h id rt W
    rw [if_neg hk] at hchk ⊢
    clear hk
    go_enter Try.func53, Try.ntmps53
    go_wp2_with (go_at_call 49; refine (hchk _).mono ?_; rintro e w2 ⟨rfl, hb2⟩)
    go_ret
    exact ⟨rfl, HB.out.trans (hb2.mono HB.out.size)⟩
end Go.Proofs.Ytilehfdplgciiaa.Hand
