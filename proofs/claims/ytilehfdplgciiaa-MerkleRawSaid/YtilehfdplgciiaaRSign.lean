import Derived.Test.YtilehfdplgciiaaRKey
/-! The reference's SignTree, walked. -/
namespace Go.Proofs.Ytilehfdplgciiaa.Hand
open Go.RowKit Go.Proofs.YtilehfdplgciiaaW.PrintWords Go.Proofs.Ytilehfdplgciiaa.PLM Go.Proofs.Ytilehfdplgciiaa.Plain
set_option linter.unusedVariables false
attribute [local go_sem ↓] Go.wp_at_zero Go.wp_at_succ

theorem rsign_once (id s : ByteArray) (i : Nat) (d : ByteArray) (h1 : id.size = 16) (h2 : s.size = 32) (h3 : i < 256) (h4 : d.size = 16) (W : World) :
    Calls Try.prog 26 #[.string id, .string s, .int .i64 i, .string d] W fun e w' => e = .returned (.tuple #[.string (signR id s i d).1, .int .i64 0]) ∧ Below W.heap.size W w' :=
  certpathref11_SignOnce.calls 60 id s i d _ _ W (by rw [ref_sign_f id s i d 60 (by decide), ← (signR_ok id s i d h1 h2 h3 h4).1])
theorem rdig_any (id rt : ByteArray) (leaf : Int) (m : ByteArray) (h1 : id.size ≤ 1000) (h2 : rt.size ≤ 1000) (h3 : m.size ≤ 1000) (A : Option Addr) (c : Nat) (hc : 5 ≤ c) (W : World) (hR : Kd.C Kd.string W A 5 [⟨#[77]⟩, id, rt, b4 leaf, m]) :
    Calls Try.prog 65 #[.slice A 5 c] W fun e w' => e = .returned (.string (mdig id rt leaf m)) ∧ Below W.heap.size W w' :=
  certpathref01_Short.calls A c [⟨#[77]⟩, id, rt, b4 leaf, m] _ W hR hc (ref_short _ (by simp only [cat_cons, cat_nil, List.length_append, bytesOf_length, b4_size, List.length_nil]; show 1 + _ ≤ _; omega))
set_option maxHeartbeats 4000000 in
set_option maxRecDepth 100000 in
theorem rsign_in (w : World) (s : ByteArray) (h lf : Nat) (m : ByteArray) (v : Value) (S : Nat → Prop) (hv : Lv w S v (levels s h)) (hs : s.size = 32) (h8 : h ≤ 8) (hl : lf < 2 ^ h) (hm : m.size ≤ 1000) :
    Calls Try.prog 50 #[.agg #[.string s, .string (nameOf s), v], .int .i64 lf, .string m] w fun e w' => e = .returned (.tuple #[.string (sigR s h lf m), .int .i64 0]) ∧ Below w.heap.size w w' := by
  have hp8 := pow_le8 h8
  have hlf : lf < 256 := by omega
  have HL := Lib.hid hl
  have HS := Lib.hid hs
  have HIZ := Lib.hid (nameOf_size s)
  have HRZ := Lib.hid (root_size s h h8 hs)
  have HDZ := Lib.hid (mdig_size (nameOf s) (root s h) lf m)
  have hll := levels_len s h
  obtain ⟨b, cap, e, hc⟩ := hv.cell
  rw [hll] at e
  subst e
  have HV := Lib.hid hv
  -- the first row's length
  obtain ⟨u0, hu0, hst0⟩ := hc 0 (by omega)
  rw [levels_get s h 0 (by omega)] at hst0
  have hl0 := lev_len s (nameOf s) h 0 (Nat.zero_le _)
  rw [Nat.sub_zero] at hl0
  obtain ⟨b0, cap0, e0, _⟩ := hst0.cell
  subst e0
  rw [hl0] at hu0
  obtain ⟨N, hN⟩ : ∃ N, N = 2 ^ h := ⟨_, rfl⟩
  rw [← hN] at hu0
  have hlN : (lf : Int) < (N : Int) := by rw [hN]; omega
  have HLL := Lib.hid hll
  have hblk := heap_alloc_new w (.cells #[.string s, .string (nameOf s), .slice (some ⟨b, 0, none⟩) (h + 1) cap] 63)
  have hB0 := below_alloc (Below.refl w.heap.size w) (.cells #[.string s, .string (nameOf s), .slice (some ⟨b, 0, none⟩) (h + 1) cap] 63)
  have HBK := Lib.hid hblk
  have HB0 := Lib.hid hB0
  have HU0 := Lib.hid ((hB0.cell (p := ⟨b, 0, none⟩) (World.block_lt_of_cell? _ _ hu0)).trans hu0)
  have HV1 := Lib.hid (HV.out.kept (Kp.of_below _ hB0))
  have HC := Lib.hid (fun i hi => (hc i hi))
  clear hl hs hv hst0 hl0 hu0 hll hN hp8 hc hblk hB0
  go_enter Try.func50, Try.ntmps50
  go_upto_region 1 with fail
  generalize w.alloc (.cells #[.string s, .string (nameOf s), .slice (some ⟨b, 0, none⟩) (h + 1) cap] 63) = w1 at *
  have c2 : w1.cell? ⟨w.heap.size, 2, none⟩ = some (.slice (some ⟨b, 0, none⟩) (h + 1) cap) := (blk_cell HBK.out 2).trans rfl
  have c1 : w1.cell? ⟨w.heap.size, 1, none⟩ = some (.string (nameOf s)) := (blk_cell HBK.out 1).trans rfl
  have c0 : w1.cell? ⟨w.heap.size, 0, none⟩ = some (.string s) := (blk_cell HBK.out 0).trans rfl
  have u0 := HU0.out
  go_upto_region 4 with (go_at_call 43; refine (rkey_any _ s h h8 (.slice (some ⟨b, 0, none⟩) (h + 1) cap) _ HV1.out).mono ?_; rintro e w2 ⟨rfl, hb2⟩)
  have hk2 := heap_alloc_new w2 (.cells #[.int .i64 h, .string (nameOf s), .string (root s h)] 58)
  have hB3 := ((HB0.out.trans (hb2.mono HB0.out.size))).alloc (Nat.le_trans HB0.out.size hb2.size) (.cells #[.int .i64 h, .string (nameOf s), .string (root s h)] 58)
  have hb3 : Below w1.heap.size w1 (w2.alloc (.cells #[.int .i64 h, .string (nameOf s), .string (root s h)] 58)) := below_alloc hb2 _
  have HK := Lib.hid hk2
  have HB3 := Lib.hid hB3
  have d0 := (hb3.cell (p := ⟨w.heap.size, 0, none⟩) (World.block_lt_of_cell? _ _ c0)).trans c0
  have d1 := (hb3.cell (p := ⟨w.heap.size, 1, none⟩) (World.block_lt_of_cell? _ _ c1)).trans c1
  have d2 := (hb3.cell (p := ⟨w.heap.size, 2, none⟩) (World.block_lt_of_cell? _ _ c2)).trans c2
  have HV3 := Lib.hid (HV1.out.kept (Kp.of_below _ hb3))
  clear hk2 hB3 hb3 hb2 c0 c1 c2 u0 HV1 HU0 HC HV HB0 HBK
  generalize w2.alloc (.cells #[.int .i64 h, .string (nameOf s), .string (root s h)] 58) = w3 at *
  generalize hgk : w2.heap.size = gk at *
  clear hgk
  have k0 : w3.cell? ⟨gk, 0, none⟩ = some (.int .i64 h) := (blk_cell HK.out 0).trans rfl
  have k1 : w3.cell? ⟨gk, 1, none⟩ = some (.string (nameOf s)) := (blk_cell HK.out 1).trans rfl
  have k2 : w3.cell? ⟨gk, 2, none⟩ = some (.string (root s h)) := (blk_cell HK.out 2).trans rfl
  go_region_held3 (fun w' => w'.cell? ⟨w.heap.size, 0, none⟩ = some (.string s) ∧ w'.cell? ⟨w.heap.size, 1, none⟩ = some (.string (nameOf s)) ∧ w'.cell? ⟨gk, 1, none⟩ = some (.string (nameOf s)) ∧ w'.cell? ⟨gk, 2, none⟩ = some (.string (root s h))) (go_keep) ((first
    | (go_at_call 70; refine (rb4_any lf _).mono ?_; rintro e w4 ⟨rfl, hb4⟩; have e0 := (hb4.cell (p := ⟨w.heap.size, 0, none⟩) (World.block_lt_of_cell? _ _ d0)).trans d0; have e1 := (hb4.cell (p := ⟨w.heap.size, 1, none⟩) (World.block_lt_of_cell? _ _ d1)).trans d1; have e2 := (hb4.cell (p := ⟨gk, 1, none⟩) (World.block_lt_of_cell? _ _ k1)).trans k1; have e3 := (hb4.cell (p := ⟨gk, 2, none⟩) (World.block_lt_of_cell? _ _ k2)).trans k2)
    | (go_at_call 65; refine (rdig_any (nameOf s) (root s h) lf m (by rw [HIZ.out]; decide) (by rw [HRZ.out]; decide) hm _ 5 (Nat.le_refl _) _ (strs_row (xs := [⟨#[77]⟩, nameOf s, root s h, b4 lf, m]) (heap_alloc_new w4 _) (by simp [maxLen]))).mono ?_; rintro e w5 ⟨rfl, hb5⟩; have hb45 : Below w4.heap.size w4 w5 := (below_alloc (Below.refl w4.heap.size w4) _).trans (hb5.mono (by simp)); have f0 := (hb45.cell (p := ⟨w.heap.size, 0, none⟩) (World.block_lt_of_cell? _ _ e0)).trans e0; have f1 := (hb45.cell (p := ⟨w.heap.size, 1, none⟩) (World.block_lt_of_cell? _ _ e1)).trans e1; have f2 := (hb45.cell (p := ⟨gk, 1, none⟩) (World.block_lt_of_cell? _ _ e2)).trans e2; have f3 := (hb45.cell (p := ⟨gk, 2, none⟩) (World.block_lt_of_cell? _ _ e3)).trans e3)
    | (go_at_call 26; refine (rsign_once (nameOf s) s lf (mdig (nameOf s) (root s h) lf m) HIZ.out HS.out hlf HDZ.out _).mono ?_; rintro e w6 ⟨rfl, hb6⟩; have g0 := (hb6.cell (p := ⟨w.heap.size, 0, none⟩) (World.block_lt_of_cell? _ _ f0)).trans f0; have g1 := (hb6.cell (p := ⟨w.heap.size, 1, none⟩) (World.block_lt_of_cell? _ _ f1)).trans f1; have g2 := (hb6.cell (p := ⟨gk, 1, none⟩) (World.block_lt_of_cell? _ _ f2)).trans f2; have g3 := (hb6.cell (p := ⟨gk, 2, none⟩) (World.block_lt_of_cell? _ _ f3)).trans f3)))
  have hz35 : w3.heap.size ≤ w5.heap.size := Nat.le_trans (show w3.heap.size ≤ w4.heap.size from hb4.size) hb45.size
  have hb36 : Below w3.heap.size w3 w6 := (((below_drew (Below.refl w3.heap.size w3)).trans hb4).trans (hb45.mono (show w3.heap.size ≤ w4.heap.size from hb4.size))).trans (hb6.mono hz35)
  have HB6 := Lib.hid (HB3.out.trans (hb36.mono HB3.out.size))
  have HV6 := Lib.hid (HV3.out.kept (Kp.of_below _ hb36))
  have HK6 := Lib.hid ((hb36.block gk (blk_lt HK.out)).trans HK.out)
  have HD2 := Lib.hid ((hb36.cell (p := ⟨w.heap.size, 2, none⟩) (World.block_lt_of_cell? _ _ d2)).trans d2)
  clear hb36 hb4 hb45 hb5 hb6 d0 d1 d2 e0 e1 e2 e3 f0 f1 f2 f3 g0 g1 g2 g3 k0 k1 k2 HK HV3 HB3 hz35
  have hsg := (signR_ok (nameOf s) s lf (mdig (nameOf s) (root s h) lf m) HIZ.out HS.out hlf HDZ.out).2
  have h0 : sigL s h lf m 0 = b4 lf ++ (signR (nameOf s) s lf (mdig (nameOf s) (root s h) lf m)).1 := rfl
  have H0 := Lib.hid h0
  have HSG := Lib.hid hsg
  clear h0 hsg
  have hb4z := b4_size lf
  have hcat : (b4 lf).size + (signR (nameOf s) s lf (mdig (nameOf s) (root s h) lf m)).1.size ≤ 9223372036854775807 := by rw [hb4z, HSG.out]; decide
  clear hb4z
  generalize (signR (nameOf s) s lf (mdig (nameOf s) (root s h) lf m)).1 = sg at *
  generalize hbb : b4 (lf : Int) = bb at *
  have HBB := Lib.hid hbb
  clear hbb
  go_upto_block 0 with (go_at_call 70; refine (rb4_any lf _).mono ?_; rintro e w7 ⟨rfl, hb7⟩; rw [HBB.out])
  have hV7 := HV6.out.kept (Kp.of_below _ hb7)
  obtain ⟨b', cap', e', hc⟩ := hV7.cell
  injection e' with e1 e2 e3
  injection e1 with e1
  injection e1 with e1
  subst e1 e3
  have c2 := (hb7.cell (p := ⟨w.heap.size, 2, none⟩) (World.block_lt_of_cell? _ _ HD2.out)).trans HD2.out
  have hk7 := (hb7.block gk (blk_lt HK6.out)).trans HK6.out
  have k0 : w7.cell? ⟨gk, 0, none⟩ = some (.int .i64 h) := (blk_cell hk7 0).trans rfl
  have HB7 := Lib.hid (HB6.out.trans (hb7.mono HB6.out.size))
  have HC := Lib.hid hc
  have HIN := Lib.hid (show ∀ l, l ≤ h → (sigL s h lf m l).size = 564 + 16 * l from sigL_size s h lf m h8 HS.out HL.out)
  clear hV7 hk7 hb7 HV6 HK6 HD2 HB6 hcat hc e2 hlN
  go_wp2
  go_loop [9, 11, 12] (fun s9 s11 s12 => ∃ l : Nat, l ≤ h ∧ s11 = .int .i64 l ∧ s12 = .int .i64 ((lf / 2 ^ l : Nat) : Int) ∧ s9 = .string (sigL s h lf m l)) (fun _ s11 _ => (h - intOf s11).toNat)
  case atStart => exact ⟨0, Nat.zero_le _, rfl, by rw [Nat.pow_zero, Nat.div_one], by rw [H0.out]⟩
  case round =>
    obtain ⟨l, hl, rfl, rfl, rfl⟩ := hrel
    by_cases hlt : l < h
    · have q0 : (l : Int) < h := by omega
      have q1 : (l : Int) < h + 1 := by omega
      obtain ⟨u, hu, hst⟩ := HC.out l (by rw [HLL.out]; omega)
      rw [levels_get s h l (by rw [HLL.out]; omega)] at hst
      obtain ⟨b2, cap2, e2, hc2⟩ := hst.cell
      subst e2
      have hi8 : lf / 2 ^ l < 2 ^ (h - l) := by
        rw [Nat.div_lt_iff_lt_mul (Nat.pow_pos (by decide)), ← Nat.pow_add, show h - l + l = h by omega]
        exact HL.out
      have hn8 : nb (lf / 2 ^ l) < 2 ^ (h - l) := by
        rw [show h - l = (h - l - 1) + 1 by omega] at hi8 ⊢
        exact nb_lt _ _ hi8
      have hi256 : lf / 2 ^ l < 256 := Nat.lt_of_le_of_lt (Nat.div_le_self _ _) hlf
      have hxo := xor_one ⟨lf / 2 ^ l, hi256⟩
      have hlen := lev_len s (nameOf s) h l hl
      rw [← hlen] at hn8
      have hcn := hc2 (nb (lf / 2 ^ l)) hn8
      have ea : (lev s (nameOf s) h l)[nb (lf / 2 ^ l)] = at_ (lev s (nameOf s) h l) (nb (lf / 2 ^ l)) := by unfold at_; rw [List.getD_eq_getElem?_getD, List.getElem?_eq_getElem hn8]; rfl
      rw [ea] at hcn
      have hsz : (sigL s h lf m (l + 1)).size = (sigL s h lf m l).size + (at_ (lev s (nameOf s) h l) (nb (lf / 2 ^ l))).size := by
        show (sigL s h lf m l ++ _).size = _
        rw [ByteArray.size_append]
      have hnx : sigL s h lf m (l + 1) = sigL s h lf m l ++ at_ (lev s (nameOf s) h l) (nb (lf / 2 ^ l)) := rfl
      have hdv : lf / 2 ^ (l + 1) = lf / 2 ^ l / 2 := by rw [Nat.pow_succ, Nat.div_div_eq_div_mul]
      rw [HIN.out (l + 1) (by omega)] at hsz
      have hcat : (sigL s h lf m l).size + (at_ (lev s (nameOf s) h l) (nb (lf / 2 ^ l))).size ≤ 9223372036854775807 := by omega
      have HNX := Lib.hid hnx
      have HDV := Lib.hid hdv
      clear ea hsz hst hc2 hlen hnx hdv hi8
      generalize (lev s (nameOf s) h l).length = len at *
      generalize at_ (lev s (nameOf s) h l) (nb (lf / 2 ^ l)) = x at *
      generalize sigL s h lf m l = y at *
      have hxo2 : Go.bits .xor .i64 ((lf / 2 ^ l : Nat) : Int) 1 = ((nb (lf / 2 ^ l) : Nat) : Int) := hxo
      clear hxo
      generalize nb (lf / 2 ^ l) = j at *
      generalize lf / 2 ^ l = i at *
      have p0 : (0 : Int) ≤ (j : Int) := by omega
      have p1 : (j : Int) < (len : Int) := by omega
      have p2 : (i : Int) < 256 := by omega
      go_wp2
      go_round
      case rel => exact ⟨l + 1, by omega, by go_num, by rw [HDV.out]; go_num, by rw [HNX.out]⟩
      case measure => simp [intOf]; omega
    · obtain rfl : l = h := by omega
      go_wp2
      go_ret2
      exact ⟨rfl, HB7.out⟩
end Go.Proofs.Ytilehfdplgciiaa.Hand
