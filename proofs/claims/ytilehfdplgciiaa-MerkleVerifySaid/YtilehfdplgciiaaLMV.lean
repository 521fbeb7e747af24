import Derived.Test.YtilehfdplgciiaaRVer
import Derived.Test.YtilehfdplgciiaaDeck
/-! certpathlaw12.MerkleVerify, walked. -/
namespace Go.Proofs.Ytilehfdplgciiaa.Hand
open Go.Proofs.YtilehfdplgciiaaW
open Go.RowKit Go.Proofs.YtilehfdplgciiaaW.PrintWords Go.Proofs.Ytilehfdplgciiaa.PLM Go.Proofs.Ytilehfdplgciiaa.Plain
set_option linter.unusedVariables false
set_option linter.unusedSimpArgs false
attribute [local go_sem ↓] Go.wp_at_zero Go.wp_at_succ

/-- The tree, the key's variable and the deck in memory. -/
def MV (w : World) (gt gk gd : Nat) (s id : ByteArray) (v : Value) (LL : List (List ByteArray)) (l : List Int) (kh : Int) (kid krt : ByteArray) (W : World) : Prop :=
  W.heap[gt]? = some (.cells #[.string s, .string id, v] 63 (0, 0)) ∧ W.heap[gk]? = some (.cells #[.int .i64 kh, .string kid, .string krt] 58 (0, 0)) ∧ Lv W (fun k => k = gk ∨ k = gd) v LL ∧ Dk w W gd l ∧ w.heap.size ≤ gk
theorem MV.below {w : World} {gt gk gd : Nat} {s id : ByteArray} {v : Value} {LL : List (List ByteArray)} {l : List Int} {kh : Int} {kid krt : ByteArray} {W W2 : World} (j : MV w gt gk gd s id v LL l kh kid krt W) (hb : Below W.heap.size W W2) : MV w gt gk gd s id v LL l kh kid krt W2 :=
  ⟨(hb.block _ (blk_lt j.1)).trans j.1, (hb.block _ (blk_lt j.2.1)).trans j.2.1, j.2.2.1.kept (Kp.of_below _ hb), j.2.2.2.1.below hb, j.2.2.2.2⟩
theorem MV.deck {w : World} {gt gk gd : Nat} {s id : ByteArray} {v : Value} {LL : List (List ByteArray)} {l : List Int} {kh : Int} {kid krt : ByteArray} {W W2 : World} (j : MV w gt gk gd s id v LL l kh kid krt W) (hd : Dk w W2 gd l) (hk : Kp (fun i => i = gd) W W2) : MV w gt gk gd s id v LL l kh kid krt W2 := by
  obtain ⟨cs, hc⟩ := j.2.2.2.1.blk
  exact ⟨(hk.block _ (blk_lt j.1) (blk_ne j.1 hc (by decide))).trans j.1, (hk.block _ (blk_lt j.2.1) (blk_ne j.2.1 hc (by decide))).trans j.2.1, j.2.2.1.kept (hk.mono fun i hi => .inr hi), hd, j.2.2.2.2⟩
theorem MV.setk {w : World} {gt gk gd : Nat} {s id : ByteArray} {v : Value} {LL : List (List ByteArray)} {l : List Int} {kh : Int} {kid krt : ByteArray} {W : World} (j : MV w gt gk gd s id v LL l kh kid krt W) (i : Nat) (x : Value) (kh2 : Int) (kid2 krt2 : ByteArray) (e : (#[.int .i64 kh, .string kid, .string krt] : Array Value).setIfInBounds i x = #[.int .i64 kh2, .string kid2, .string krt2]) : MV w gt gk gd s id v LL l kh2 kid2 krt2 (W.setCell ⟨gk, i, none⟩ x) := by
  obtain ⟨cs, hc⟩ := j.2.2.2.1.blk
  have hk : Kp (fun k => k = gk) W (W.setCell ⟨gk, i, none⟩ x) := (Kp.refl (fun k => k = gk) W).setCell (p := ⟨gk, i, none⟩) (.inl rfl) x
  refine ⟨(hk.block _ (blk_lt j.1) (blk_ne j.1 j.2.1 (by decide))).trans j.1, ?_, j.2.2.1.kept (hk.mono fun i hi => .inl hi), j.2.2.2.1.kept hk (blk_ne hc j.2.1 (by decide)) (fun i hi => by rw [hi]; exact j.2.2.2.2), j.2.2.2.2⟩
  rw [← e]
  exact blk_set j.2.1 i x
set_option maxHeartbeats 4000000 in
set_option maxRecDepth 100000 in
theorem merkleVerify_walk (w : World) (k : Int) (hk0 : 0 ≤ k) (hk1 : k ≤ 255) (ht : Int) (hh0 : 0 ≤ ht) (hh1 : ht ≤ 255) (lf0 : Int) (hl0 : 0 ≤ lf0) (hl1 : lf0 ≤ 255) (m : ByteArray) (hmz : m.size ≤ 140737488351232) (ot : ByteArray) (hoz : ot.size ≤ 140737488351232) (A : Option Addr) (c : Nat) (l : List Int) (hlz : l.length * 8 ≤ 140737488351232) (hlc : l.length ≤ c) (hC : Kd.C (Kd.int .i64) w A l.length l) :
    Calls Try.prog 14 #[.int .u8 k, .int .u8 ht, .int .u8 lf0, .string m, .string ot, .slice A l.length c] w fun e w' => e = .returned (.bool true) ∧ Below w.heap.size w w' := by
  have HC := Lib.hid hC
  have HLZ := Lib.hid hlz
  have HLC := Lib.hid hlc
  clear hC hlz hlc hmz hoz
  by_cases big : m.size ≤ 200 ∧ ot.size ≤ 200
  · obtain ⟨b1, b2⟩ := big
    have HM := Lib.hid b1
    have HO := Lib.hid b2
    have hm1 : m.size ≤ 1000 := by omega
    have HO1 := Lib.hid (show ot.size ≤ 1000 by omega)
    have HM1 := Lib.hid hm1
    clear hm1
    obtain ⟨h, hh⟩ : ∃ h : Nat, ht % 3 = (h : Int) := ⟨(ht % 3).toNat, by omega⟩
    have h8 : h ≤ 8 := by omega
    obtain ⟨N, hN⟩ : ∃ N, N = 2 ^ h := ⟨_, rfl⟩
    have hNp : 0 < N := by rw [hN]; exact Nat.pow_pos (by decide)
    have hN8 : N ≤ 256 := by rw [hN]; exact pow_le8 h8
    have hpw : wrap64 ((2 : Int) ^ h) = (N : Int) := by rw [hN]; exact pow_w h h8
    have hpw2 : IntKind.i64.wrap ((2 : Int) ^ h) = (N : Int) := by rw [← hpw]; exact (Go.Proofs.YtilehfdplgciiaaW.PrintLast.i64_w _)
    have hwk : IntKind.i64.wrap k = k := IntWalk.i64_in _ (by omega)
    have hwl : IntKind.i64.wrap lf0 = lf0 := IntWalk.i64_in _ (by omega)
    have hnp : (0 : Int) < (N : Int) := by omega
    have hn0 : ((N : Int) == 0) = false := by simp; omega
    have hnz : ¬ N = 0 := by omega
    obtain ⟨lf, hlf⟩ : ∃ lf : Nat, (lf : Int) = lf0 % (N : Int) := ⟨(lf0 % (N : Int)).toNat, Int.toNat_of_nonneg (Int.emod_nonneg _ (by omega))⟩
    have hlN : lf < 2 ^ h := by
      have := Int.emod_lt_of_pos lf0 hnp
      omega
    have hrem : lf0 % (N : Int) = (lf : Int) := hlf.symm
    have htm : Int.tmod lf0 (N : Int) = (lf : Int) := by rw [Int.tmod_eq_emod_of_nonneg hl0]; exact hrem
    have hwf : IntKind.i64.wrap (lf : Int) = (lf : Int) := IntWalk.i64_in _ (by omega)
    have htree := fun W => rtree_any W k h h8
    have hrs := fun W v S (hv : Lv W S v (levels (seed k) h)) => rsign_in W (seed k) h lf m v S hv (seed_size k) h8 hlN HM1.out
    have hrk := fun W v S (hv : Lv W S v (levels (seed k) h)) => rkey_any W (seed k) h h8 v S hv
    have hz := sigL_size (seed k) h lf m h8 (seed_size k) hlN h (Nat.le_refl _)
    have hvt := fun W => ver_true (seed k) h lf m h8 (seed_size k) hlN HM1.out W
    have hzz : (sigR (seed k) h lf m).size ≤ 1000 := by show (sigL (seed k) h lf m h).size ≤ _; omega
    have hiz := nameOf_size (seed k)
    have hrz := root_size (seed k) h h8 (seed_size k)
    clear hz hN hlf hlN
    generalize sigR (seed k) h lf m = sg at *
    generalize levels (seed k) h = LL at *
    generalize root (seed k) h = rt at *
    generalize nameOf (seed k) = id at *
    generalize seed k = s at *
    have HTREE := Lib.hid htree
    have HRS := Lib.hid hrs
    have HRK := Lib.hid hrk
    have HVT := Lib.hid hvt
    have HSZ := Lib.hid hzz
    have HIZ := Lib.hid hiz
    have HRZ := Lib.hid hrz
    clear htree hrs hrk hvt hzz hiz hrz
    go_enter Try.func14, Try.ntmps14
    go_upto_region 4 with fail
    clear b1 b2
    go_upto_region 5 with (go_at_call 44; refine (HTREE.out _).mono ?_; rintro e w2 ⟨v, rfl, hL2, hb2⟩; obtain ⟨b, cp, rfl, hcell⟩ := hL2.cell; clear hcell; have HL2 := Lib.hid hL2; have HB2 := Lib.hid hb2; clear hL2 hb2)
    generalize LL.length = n at *
    have hT3 := heap_alloc_new w2 (.cells #[.string s, .string id, (.slice (some ⟨b, 0, none⟩) n cp)] 63)
    have HB3 := Lib.hid (below_alloc HB2.out (.cells #[.string s, .string id, (.slice (some ⟨b, 0, none⟩) n cp)] 63))
    have HL3 := Lib.hid ((HL2.out.apart (S2 := fun _ => False) (fun _ _ h => h.elim)).kept (Kp.of_below _ (below_alloc (Below.refl _ _) (.cells #[.string s, .string id, (.slice (some ⟨b, 0, none⟩) n cp)] 63))))
    generalize w2.alloc (.cells #[.string s, .string id, (.slice (some ⟨b, 0, none⟩) n cp)] 63) = w3 at *
    generalize w2.heap.size = gt at *
    clear HB2 HL2
    have c0 := (blk_cell hT3 0).trans rfl
    have c1 := (blk_cell hT3 1).trans rfl
    have c2 := (blk_cell hT3 2).trans rfl
    have HT3 := Lib.hid hT3
    clear hT3 hh hNp hN8
    go_region_held3 (fun w' => w'.cell? ⟨gt, 0, none⟩ = some (.string s) ∧ w'.cell? ⟨gt, 1, none⟩ = some (.string id) ∧ w'.cell? ⟨gt, 2, none⟩ = some (.slice (some ⟨b, 0, none⟩) n cp)) (go_keep) ((go_at_call 50; refine (HRS.out _ _ _ (HL3.out.kept (Kp.of_below _ (below_drew (Below.refl _ _))))).mono ?_; rintro e w4 ⟨rfl, hb4⟩; have hT4 := (hb4.block gt (blk_lt HT3.out)).trans HT3.out; have d0 := (blk_cell hT4 0).trans rfl; have d1 := (blk_cell hT4 1).trans rfl; have d2 := (blk_cell hT4 2).trans rfl))
    have hb34 : Below w3.heap.size w3 w4 := (below_drew (Below.refl _ _)).trans hb4
    have HB4 := Lib.hid (HB3.out.trans (hb34.mono HB3.out.size))
    have HL4 := Lib.hid (HL3.out.kept (Kp.of_below _ hb34))
    have HT4 := Lib.hid hT4
    clear hb34 hb4 hT4 c0 c1 c2 d0 d1 d2 HT3 HB3 HL3 htm hrem hpw hpw2 hwl hwf hn0 hnz hnp hwk
    go_upto_region 7 with (go_at_call 25; refine (deck_new w _ A c l HLZ.out HLC.out HC.out HB4.out).mono ?_; rintro e w5 ⟨gd, rfl, hd5, hb5⟩)
    have hT5 := (hb5.block gt (blk_lt HT4.out)).trans HT4.out
    have c0 := (blk_cell hT5 0).trans rfl
    have c1 := (blk_cell hT5 1).trans rfl
    have c2 := (blk_cell hT5 2).trans rfl
    have HL5 := Lib.hid (HL4.out.kept (Kp.of_below _ hb5))
    have HT5 := Lib.hid hT5
    have HD5 := Lib.hid hd5
    clear hT5 hd5 hb5 HT4 HL4 HB4
    go_upto_region 8 with (go_at_call 43; refine (HRK.out _ _ _ HL5.out).mono ?_; rintro e w6 ⟨rfl, hb6⟩)
    have hK7 := heap_alloc_new w6 (.cells #[.int .i64 h, .string id, .string rt] 58)
    have hb57 := below_alloc hb6 (.cells #[.int .i64 h, .string id, .string rt] 58)
    have hd7 := HD5.out.below hb57
    have hT7 := (hb57.block gt (blk_lt HT5.out)).trans HT5.out
    have hL7 := HL5.out.kept (Kp.of_below _ hb57)
    have hg6 : w.heap.size ≤ w6.heap.size := Nat.le_trans HD5.out.bel.size hb6.size
    have hj7 : MV w gt w6.heap.size gd s id (.slice (some ⟨b, 0, none⟩) n cp) LL l h id rt (w6.alloc (.cells #[.int .i64 h, .string id, .string rt] 58)) := by
      obtain ⟨cs, hcs⟩ := hd7.blk
      exact ⟨hT7, hK7, ((hL7.but hK7 (by decide) (by decide)).but hcs (by decide) (by decide)).apart (fun k _ h => h.elim (fun h => .inl (.inr h)) .inr), hd7, hg6⟩
    have HJ7 := Lib.hid hj7
    clear hj7
    generalize w6.alloc (.cells #[.int .i64 h, .string id, .string rt] 58) = w7 at *
    generalize w6.heap.size = gk at *
    clear hK7 hb57 hd7 hT7 hL7 hg6 hb6 HT5 HL5 HD5 c0 c1 c2
    have hsz : sg.size ≤ 100000 := by have := HSZ.out; omega
    have HSZ2 := Lib.hid hsz
    clear hsz
    go_upto_block 0 with (first
      | (go_at_call 37; refine (deck_next 6 HJ8.out.2.2.2.1 (by decide) (by decide)).mono ?_; rintro e w9 ⟨q, rfl, q0, q1, hd9, hk9⟩; have HJ9 := Lib.hid (HJ8.out.deck hd9 hk9); clear hd9 hk9)
      | (go_at_call 29; refine (damage_any sg HJ7.out.2.2.2.1 HSZ2.out).mono ?_; rintro e w8 ⟨x, rfl, hx, hd8, hk8⟩; have HJ8 := Lib.hid (HJ7.out.deck hd8 hk8); have HX := Lib.hid hx; clear hd8 hk8 hx))
    have hid1 : id.size ≤ 100000 := by rw [HIZ.out]; decide
    have hrt1 : rt.size ≤ 100000 := by rw [HRZ.out]; decide
    have HID := Lib.hid hid1
    have HRT := Lib.hid hrt1
    clear hid1 hrt1
    have j9 := HJ9.out.2.1
    have k0 := (blk_cell j9 0).trans rfl
    have k1 := (blk_cell j9 1).trans rfl
    have k2 := (blk_cell j9 2).trans rfl
    clear j9
    go_cut [20] (fun s20 W' => ∃ (mm : ByteArray) (kh : Int) (kid krt : ByteArray), s20 = .string mm ∧ mm.size ≤ 1000 ∧ MV w gt gk gd s id (.slice (some ⟨b, 0, none⟩) n cp) LL l kh kid krt W')
    case first =>
      have hq : q = 0 ∨ q = 1 ∨ q = 2 ∨ q = 3 ∨ 4 ≤ q := by omega
      rcases hq with rfl | rfl | rfl | rfl | hq
      · go_wp2_with (go_at_call 37; refine (deck_next 12 HJ9.out.2.2.2.1 (by decide) (by decide)).mono ?_; rintro e w10 ⟨r, rfl, r0, r1, hd, hk⟩; have hj := HJ9.out.deck hd hk; have HJ := Lib.hid hj; have l0 := blk_frozen hj.2.1 0; have d0 := (blk_cell hj.2.1 0).trans rfl; clear hd hk hj)
        go_meet
        case rel => exact ⟨m, r - 1, id, rt, rfl, HM1.out, HJ.out.setk 0 _ _ _ _ rfl⟩
      · go_wp2_with (go_at_call 29; refine (damage_any id HJ9.out.2.2.2.1 HID.out).mono ?_; rintro e w10 ⟨r, rfl, hr, hd, hk⟩; have hj := HJ9.out.deck hd hk; have HJ := Lib.hid hj; have l0 := blk_frozen hj.2.1 1; have d0 := (blk_cell hj.2.1 1).trans rfl; clear hd hk hj hr)
        go_meet
        case rel => exact ⟨m, h, r, rt, rfl, HM1.out, HJ.out.setk 1 _ _ _ _ rfl⟩
      · go_wp2_with (go_at_call 29; refine (damage_any rt HJ9.out.2.2.2.1 HRT.out).mono ?_; rintro e w10 ⟨r, rfl, hr, hd, hk⟩; have hj := HJ9.out.deck hd hk; have HJ := Lib.hid hj; have l0 := blk_frozen hj.2.1 2; have d0 := (blk_cell hj.2.1 2).trans rfl; clear hd hk hj hr)
        go_meet
        case rel => exact ⟨m, h, id, r, rfl, HM1.out, HJ.out.setk 2 _ _ _ _ rfl⟩
      · go_wp2
        go_meet
        case rel => exact ⟨ot, h, id, rt, rfl, HO1.out, HJ9.out⟩
      · have n0 : (q == 0) = false := by simp; omega
        have n1 : (q == 1) = false := by simp; omega
        have n2 : (q == 2) = false := by simp; omega
        have n3 : (q == 3) = false := by simp; omega
        go_wp2
        go_meet
        case rel => exact ⟨m, h, id, rt, rfl, HM1.out, HJ9.out⟩
    case rest =>
    obtain ⟨mm, kh, kid, krt, rfl, hmm, hJ⟩ := hcut
    have HJ10 := Lib.hid hJ
    have hx1 : x.size ≤ 100000 := by have := HX.out; have := HSZ.out; omega
    have hvr := fun W => ver_any kh kid krt mm x hmm hx1 W
    have hrv := fun W => rver_any kh kid krt mm x hmm hx1 W
    generalize verR kh kid krt mm x = vv at *
    have HVR := Lib.hid hvr
    have HRV := Lib.hid hrv
    clear hvr hrv hmm hx1 hJ k0 k1 k2 HJ9 HX
    go_upto_region 19 with fail
    refine PrintLast.start_ (n := 21) (S := fun w' => MV w gt gk gd s id (.slice (some ⟨b, 0, none⟩) n cp) LL l kh kid krt w') (ds := []) #[false, false, false, false, false, false, false, false, false, false, false, false, false, false, false, false, false, false, false, false, false] (by kernel_rfl) rfl rfl (HJ10.out.below (below_drew (Below.refl _ _))) (fun hHeld => ?_)
    clear hHeld
    refine PrintLast.one_ (i := 0) (N := some 81) #[true, false, false, false, false, false, false, false, false, false, false, false, false, false, false, false, false, false, false, false, false] rfl rfl (by kernel_rfl) (by decide) (fun K hK => ?_)
    refine PrintLast.goes_ Try.func41 (by kernel_rfl) rfl #[] (by rfl) rfl rfl (by (try simp only [List.map_toArray, List.map_cons, List.map_nil]); first | done | rfl) ?_
    refine (awake12 _).mono ?_
    rintro e w11 ⟨rfl, hb⟩
    refine ⟨_, rfl, ?_⟩
    have HJ11 := Lib.hid ((HJ10.out.below (below_drew (Below.refl _ _))).below hb)
    clear hb
    refine hK.out _ _ (HJ11.out) (fun hHeld => ?_)
    clear hHeld hK K
    refine PrintLast.norm_ (a' := ?_) ?_ ?_
    rotate_left
    · show Act.put _ (some 81) _ = _
      simp only [Act.put, List.setIfInBounds_toArray, List.set_cons_zero, List.set_cons_succ, PrintLast.i64_w, PrintLast.i32_w]
      rfl
    refine PrintLast.pure_ (i := 1) (N := some 82) (v := ?_) (a' := ?_) #[true, true, false, false, false, false, false, false, false, false, false, false, false, false, false, false, false, false, false, false, false] rfl rfl (by kernel_rfl) (fun _ _ _ h => h) (Or.inl ⟨by rfl, ?_⟩) ?_ ?_
    rotate_left
    · intro w'
      go_simp
      with_reducible rfl
    rotate_left
    · simp only [Act.put, List.setIfInBounds_toArray, List.set_cons_zero, List.set_cons_succ, PrintLast.i64_w, PrintLast.i32_w]
      rfl
    refine PrintLast.take_ (i := 2) (N := some 83) (v := ?_) (a' := ?_) #[true, true, true, false, false, false, false, false, false, false, false, false, false, false, false, false, false, false, false, false, false] rfl rfl (by kernel_rfl) (fun _ _ _ h => h) (Or.inl ⟨by rfl, ?_⟩) HJ11.out ?_ ?_
    rotate_left
    · intro w' hS
      have c0 := (blk_cell hS.2.1 0).trans rfl
      have c1 := (blk_cell hS.2.1 1).trans rfl
      have c2 := (blk_cell hS.2.1 2).trans rfl
      go_simp
      with_reducible rfl
    rotate_left
    · simp only [Act.put, List.setIfInBounds_toArray, List.set_cons_zero, List.set_cons_succ, PrintLast.i64_w, PrintLast.i32_w]
      rfl
    refine PrintLast.take_ (i := 6) (N := some 87) (v := ?_) (a' := ?_) #[true, true, true, false, false, false, true, false, false, false, false, false, false, false, false, false, false, false, false, false, false] rfl rfl (by kernel_rfl) (fun _ _ _ h => h) (Or.inl ⟨by rfl, ?_⟩) HJ11.out ?_ ?_
    rotate_left
    · intro w' hS
      have c0 := (blk_cell hS.2.1 0).trans rfl
      have c1 := (blk_cell hS.2.1 1).trans rfl
      have c2 := (blk_cell hS.2.1 2).trans rfl
      go_simp
      with_reducible rfl
    rotate_left
    · simp only [Act.put, List.setIfInBounds_toArray, List.set_cons_zero, List.set_cons_succ, PrintLast.i64_w, PrintLast.i32_w]
      rfl
    refine PrintLast.pure_ (i := 3) (N := some 84) (v := ?_) (a' := ?_) #[true, true, true, true, false, false, true, false, false, false, false, false, false, false, false, false, false, false, false, false, false] rfl rfl (by kernel_rfl) (fun _ _ _ h => h) (Or.inl ⟨by rfl, ?_⟩) ?_ ?_
    rotate_left
    · intro w'
      go_simp
      with_reducible rfl
    rotate_left
    · simp only [Act.put, List.setIfInBounds_toArray, List.set_cons_zero, List.set_cons_succ, PrintLast.i64_w, PrintLast.i32_w]
      rfl
    refine PrintLast.pure_ (i := 4) (N := some 85) (v := ?_) (a' := ?_) #[true, true, true, true, true, false, true, false, false, false, false, false, false, false, false, false, false, false, false, false, false] rfl rfl (by kernel_rfl) (fun _ _ _ h => h) (Or.inl ⟨by rfl, ?_⟩) ?_ ?_
    rotate_left
    · intro w'
      go_simp
      with_reducible rfl
    rotate_left
    · simp only [Act.put, List.setIfInBounds_toArray, List.set_cons_zero, List.set_cons_succ, PrintLast.i64_w, PrintLast.i32_w]
      rfl
    refine PrintLast.pure_ (i := 7) (N := some 88) (v := ?_) (a' := ?_) #[true, true, true, true, true, false, true, true, false, false, false, false, false, false, false, false, false, false, false, false, false] rfl rfl (by kernel_rfl) (fun _ _ _ h => h) (Or.inl ⟨by rfl, ?_⟩) ?_ ?_
    rotate_left
    · intro w'
      go_simp
      with_reducible rfl
    rotate_left
    · simp only [Act.put, List.setIfInBounds_toArray, List.set_cons_zero, List.set_cons_succ, PrintLast.i64_w, PrintLast.i32_w]
      rfl
    refine PrintLast.pure_ (i := 8) (N := some 89) (v := ?_) (a' := ?_) #[true, true, true, true, true, false, true, true, true, false, false, false, false, false, false, false, false, false, false, false, false] rfl rfl (by kernel_rfl) (fun _ _ _ h => h) (Or.inl ⟨by rfl, ?_⟩) ?_ ?_
    rotate_left
    · intro w'
      go_simp
      with_reducible rfl
    rotate_left
    · simp only [Act.put, List.setIfInBounds_toArray, List.set_cons_zero, List.set_cons_succ, PrintLast.i64_w, PrintLast.i32_w]
      rfl
    refine PrintLast.one_ (i := 5) (N := some 86) #[true, true, true, true, true, true, true, true, true, false, false, false, false, false, false, false, false, false, false, false, false] rfl rfl (by kernel_rfl) (by decide) (fun K hK => ?_)
    refine PrintLast.goes_ Try.func52 (by kernel_rfl) rfl #[.agg #[.int .i64 kh, .string kid, .string krt], .string mm, .string x] (by rfl) rfl rfl (by (try simp only [List.map_toArray, List.map_cons, List.map_nil]); first | done | rfl) ?_
    refine (HVR.out _).mono ?_
    rintro e w12 ⟨rfl, hb⟩
    refine ⟨_, rfl, ?_⟩
    have HJ12 := Lib.hid (HJ11.out.below hb)
    clear hb
    refine hK.out _ _ (HJ12.out) (fun hHeld => ?_)
    clear hHeld hK K
    refine PrintLast.norm_ (a' := ?_) ?_ ?_
    rotate_left
    · show Act.put _ (some 86) _ = _
      simp only [Act.put, List.setIfInBounds_toArray, List.set_cons_zero, List.set_cons_succ, PrintLast.i64_w, PrintLast.i32_w]
      rfl
    refine PrintLast.one_ (i := 9) (N := some 90) #[true, true, true, true, true, true, true, true, true, true, false, false, false, false, false, false, false, false, false, false, false] rfl rfl (by kernel_rfl) (by decide) (fun K hK => ?_)
    refine PrintLast.goes_ Try.func53 (by kernel_rfl) rfl #[.agg #[.int .i64 kh, .string kid, .string krt], .string mm, .string x] (by rfl) rfl rfl (by (try simp only [List.map_toArray, List.map_cons, List.map_nil]); first | done | rfl) ?_
    refine (HRV.out _).mono ?_
    rintro e w13 ⟨rfl, hb⟩
    refine ⟨_, rfl, ?_⟩
    have HJ13 := Lib.hid (HJ12.out.below hb)
    clear hb
    refine hK.out _ _ (HJ13.out) (fun hHeld => ?_)
    clear hHeld hK K
    refine PrintLast.norm_ (a' := ?_) ?_ ?_
    rotate_left
    · show Act.put _ (some 90) _ = _
      simp only [Act.put, List.setIfInBounds_toArray, List.set_cons_zero, List.set_cons_succ, PrintLast.i64_w, PrintLast.i32_w]
      rfl
    refine PrintLast.pure_ (i := 10) (N := some 91) (v := ?_) (a' := ?_) #[true, true, true, true, true, true, true, true, true, true, true, false, false, false, false, false, false, false, false, false, false] rfl rfl (by kernel_rfl) (fun _ _ _ h => h) (Or.inl ⟨by rfl, ?_⟩) ?_ ?_
    rotate_left
    · intro w'
      go_simp
      with_reducible rfl
    rotate_left
    · simp only [Act.put, List.setIfInBounds_toArray, List.set_cons_zero, List.set_cons_succ, PrintLast.i64_w, PrintLast.i32_w]
      rfl
    refine PrintLast.pure_ (i := 11) (N := some 92) (v := ?_) (a' := ?_) #[true, true, true, true, true, true, true, true, true, true, true, true, false, false, false, false, false, false, false, false, false] rfl rfl (by kernel_rfl) (fun _ _ _ h => h) (Or.inl ⟨by rfl, ?_⟩) ?_ ?_
    rotate_left
    · intro w'
      go_simp
      with_reducible rfl
    rotate_left
    · simp only [Act.put, List.setIfInBounds_toArray, List.set_cons_zero, List.set_cons_succ, PrintLast.i64_w, PrintLast.i32_w]
      rfl
    refine PrintLast.pure_ (i := 12) (N := some 93) (v := ?_) (a' := ?_) #[true, true, true, true, true, true, true, true, true, true, true, true, true, false, false, false, false, false, false, false, false] rfl rfl (by kernel_rfl) (fun _ _ _ h => h) (Or.inl ⟨by rfl, ?_⟩) ?_ ?_
    rotate_left
    · intro w'
      go_simp
      with_reducible rfl
    rotate_left
    · simp only [Act.put, List.setIfInBounds_toArray, List.set_cons_zero, List.set_cons_succ, PrintLast.i64_w, PrintLast.i32_w]
      rfl
    refine PrintLast.take_ (i := 13) (N := some 94) (v := ?_) (a' := ?_) #[true, true, true, true, true, true, true, true, true, true, true, true, true, true, false, false, false, false, false, false, false] rfl rfl (by kernel_rfl) (fun _ _ _ h => h) (Or.inl ⟨by rfl, ?_⟩) HJ13.out ?_ ?_
    rotate_left
    · intro w' hS
      have c0 := (blk_cell hS.1 0).trans rfl
      have c1 := (blk_cell hS.1 1).trans rfl
      have c2 := (blk_cell hS.1 2).trans rfl
      go_simp
      with_reducible rfl
    rotate_left
    · simp only [Act.put, List.setIfInBounds_toArray, List.set_cons_zero, List.set_cons_succ, PrintLast.i64_w, PrintLast.i32_w]
      rfl
    refine PrintLast.pure_ (i := 15) (N := some 96) (v := ?_) (a' := ?_) #[true, true, true, true, true, true, true, true, true, true, true, true, true, true, false, true, false, false, false, false, false] rfl rfl (by kernel_rfl) (fun _ _ _ h => h) (Or.inl ⟨by rfl, ?_⟩) ?_ ?_
    rotate_left
    · intro w'
      go_simp
      with_reducible rfl
    rotate_left
    · simp only [Act.put, List.setIfInBounds_toArray, List.set_cons_zero, List.set_cons_succ, PrintLast.i64_w, PrintLast.i32_w]
      rfl
    refine PrintLast.pure_ (i := 16) (N := some 97) (v := ?_) (a' := ?_) #[true, true, true, true, true, true, true, true, true, true, true, true, true, true, false, true, true, false, false, false, false] rfl rfl (by kernel_rfl) (fun _ _ _ h => h) (Or.inl ⟨by rfl, ?_⟩) ?_ ?_
    rotate_left
    · intro w'
      go_simp
      with_reducible rfl
    rotate_left
    · simp only [Act.put, List.setIfInBounds_toArray, List.set_cons_zero, List.set_cons_succ, PrintLast.i64_w, PrintLast.i32_w]
      rfl
    refine PrintLast.one_ (i := 14) (N := some 95) #[true, true, true, true, true, true, true, true, true, true, true, true, true, true, true, true, true, false, false, false, false] rfl rfl (by kernel_rfl) (by decide) (fun K hK => ?_)
    refine PrintLast.goes_ Try.func43 (by kernel_rfl) rfl #[.agg #[.string s, .string id, (.slice (some ⟨b, 0, none⟩) n cp)]] (by rfl) rfl rfl (by (try simp only [List.map_toArray, List.map_cons, List.map_nil]); first | done | rfl) ?_
    refine (HRK.out _ _ _ HJ13.out.2.2.1).mono ?_
    rintro e w14 ⟨rfl, hb⟩
    refine ⟨_, rfl, ?_⟩
    have HJ14 := Lib.hid (HJ13.out.below hb)
    clear hb
    refine hK.out _ _ (HJ14.out) (fun hHeld => ?_)
    clear hHeld hK K
    refine PrintLast.norm_ (a' := ?_) ?_ ?_
    rotate_left
    · show Act.put _ (some 95) _ = _
      simp only [Act.put, List.setIfInBounds_toArray, List.set_cons_zero, List.set_cons_succ, PrintLast.i64_w, PrintLast.i32_w]
      rfl
    refine PrintLast.one_ (i := 17) (N := some 98) #[true, true, true, true, true, true, true, true, true, true, true, true, true, true, true, true, true, true, false, false, false] rfl rfl (by kernel_rfl) (by decide) (fun K hK => ?_)
    refine PrintLast.goes_ Try.func52 (by kernel_rfl) rfl #[.agg #[.int .i64 h, .string id, .string rt], .string m, .string sg] (by rfl) rfl rfl (by (try simp only [List.map_toArray, List.map_cons, List.map_nil]); first | done | rfl) ?_
    refine (HVT.out _).mono ?_
    rintro e w15 ⟨rfl, hb⟩
    refine ⟨_, rfl, ?_⟩
    have HJ15 := Lib.hid (HJ14.out.below hb)
    clear hb
    refine hK.out _ _ (HJ15.out) (fun hHeld => ?_)
    clear hHeld hK K
    refine PrintLast.norm_ (a' := ?_) ?_ ?_
    rotate_left
    · show Act.put _ (some 98) _ = _
      simp only [Act.put, List.setIfInBounds_toArray, List.set_cons_zero, List.set_cons_succ, PrintLast.i64_w, PrintLast.i32_w]
      rfl
    refine PrintLast.pure_ (i := 18) (N := some 99) (v := ?_) (a' := ?_) #[true, true, true, true, true, true, true, true, true, true, true, true, true, true, true, true, true, true, true, false, false] rfl rfl (by kernel_rfl) (fun _ _ _ h => h) (Or.inl ⟨by rfl, ?_⟩) ?_ ?_
    rotate_left
    · intro w'
      go_simp
      with_reducible rfl
    rotate_left
    · simp only [Act.put, List.setIfInBounds_toArray, List.set_cons_zero, List.set_cons_succ, PrintLast.i64_w, PrintLast.i32_w]
      rfl
    refine PrintLast.pure_ (i := 19) (N := some 100) (v := ?_) (a' := ?_) #[true, true, true, true, true, true, true, true, true, true, true, true, true, true, true, true, true, true, true, true, false] rfl rfl (by kernel_rfl) (fun _ _ _ h => h) (Or.inl ⟨by rfl, ?_⟩) ?_ ?_
    rotate_left
    · intro w'
      go_simp
      with_reducible rfl
    rotate_left
    · simp only [Act.put, List.setIfInBounds_toArray, List.set_cons_zero, List.set_cons_succ, PrintLast.i64_w, PrintLast.i32_w]
      rfl
    refine PrintLast.pure_ (i := 20) (N := some 12) (v := ?_) (a' := ?_) #[true, true, true, true, true, true, true, true, true, true, true, true, true, true, true, true, true, true, true, true, true] rfl rfl (by kernel_rfl) (fun _ _ _ h => h) (Or.inl ⟨by rfl, ?_⟩) ?_ ?_
    rotate_left
    · intro w'
      go_simp
      with_reducible rfl
    rotate_left
    · simp only [Act.put, List.setIfInBounds_toArray, List.set_cons_zero, List.set_cons_succ, PrintLast.i64_w, PrintLast.i32_w]
      rfl
    refine PrintLast.done_ (by kernel_rfl) ?_
    go_wp2
    go_ret
    exact ⟨rfl, HJ15.out.2.2.2.1.bel⟩
  · have hb : 200 < m.size ∨ m.size ≤ 200 ∧ 200 < ot.size := by omega
    clear big
    rcases hb with h1 | ⟨h1, h2⟩
    all_goals
      go_enter Try.func14, Try.ntmps14
      go_wp2_with (go_at_call 41; refine (awake12 _).mono ?_; rintro e w9 ⟨rfl, hb9⟩)
      go_ret
      exact ⟨rfl, hb9⟩
end Go.Proofs.Ytilehfdplgciiaa.Hand
