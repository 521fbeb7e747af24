import Derived.Test.YtilehfdplgciiaaRTree
/-! The reference's Tree, KeyOf and SignTree, walked. -/
namespace Go.Proofs.Ytilehfdplgciiaa.Hand
open Go.RowKit Go.Proofs.YtilehfdplgciiaaW.PrintWords Go.Proofs.Ytilehfdplgciiaa.PLM Go.Proofs.Ytilehfdplgciiaa.Plain
set_option linter.unusedVariables false
attribute [local go_sem ↓] Go.wp_at_zero Go.wp_at_succ

set_option maxHeartbeats 1000000 in
set_option maxRecDepth 100000 in
theorem rtree_any (w : World) (k : Int) (h : Nat) (h8 : h ≤ 8) :
    Calls Try.prog 44 #[.int .i64 k, .int .i64 h] w fun e w' => ∃ v, e = .returned (.agg #[.string (seed k), .string (nameOf (seed k)), v]) ∧ Lv w' (fun i => i < w.heap.size) v (levels (seed k) h) ∧ Below w.heap.size w w' := by
  have HS := Lib.hid (seed_size k)
  have HR0 := Lib.hid (heap_alloc_new w (.cells #[.string ⟨#[]⟩, .string ⟨#[]⟩, .slice none 0 0] 63))
  have HB0 := Lib.hid (below_alloc (Below.refl w.heap.size w) (.cells #[.string ⟨#[]⟩, .string ⟨#[]⟩, .slice none 0 0] 63))
  go_enter Try.func44, Try.ntmps44
  go_upto_region 1 with fail
  generalize w.alloc (.cells #[.string ⟨#[]⟩, .string ⟨#[]⟩, .slice none 0 0] 63) = w1 at *
  obtain ⟨gr, hgr⟩ : ∃ gr, gr = w.heap.size := ⟨_, rfl⟩
  rw [← hgr] at HR0 ⊢
  have HGR := Lib.hid hgr
  clear hgr
  have HW1 := Lib.hid (blk_lt HR0.out)
  go_upto_region 2 with (first | (go_at_call 28; refine (seed_any k _).mono ?_; rintro e w2 ⟨rfl, hb2⟩) | (go_at_call 46; refine (rgen_any _ (seed k) h HS.out h8).mono ?_; rintro e w3 ⟨v, rfl, hL3, hb3⟩; obtain ⟨Af, nf, cf, ef⟩ : ∃ Af nf cf, v = .slice Af nf cf := by { obtain ⟨b, c, rs, e, _⟩ := hL3; exact ⟨_, _, _, e⟩ }; subst ef))
  have hB3 : Below w1.heap.size w1 w3 := hb2.trans (hb3.mono hb2.size)
  have HB3 := Lib.hid hB3
  have HL3 := Lib.hid (hL3.apart (S2 := fun i => i < w1.heap.size) (fun i _ h => Nat.lt_of_lt_of_le h hb2.size))
  have HT4 := Lib.hid (heap_alloc_new w3 (.cells #[.string (seed k), .string (nameOf (seed k)), .slice Af nf cf] 63))
  have HB4 := Lib.hid (below_alloc hB3 (.cells #[.string (seed k), .string (nameOf (seed k)), .slice Af nf cf] 63))
  have HL4 := Lib.hid (HL3.out.kept (Kp.of_below _ (below_alloc (Below.refl w3.heap.size w3) (.cells #[.string (seed k), .string (nameOf (seed k)), .slice Af nf cf] 63))))
  clear hL3 hb3 hb2 hB3 HB3 HL3
  generalize w3.alloc (.cells #[.string (seed k), .string (nameOf (seed k)), .slice Af nf cf] 63) = w4 at *
  generalize hg4 : w3.heap.size = g4 at *
  clear hg4
  have d0 : w4.cell? ⟨g4, 0, none⟩ = some (.string (seed k)) := (blk_cell HT4.out 0).trans rfl
  have d1 : w4.cell? ⟨g4, 1, none⟩ = some (.string (nameOf (seed k))) := (blk_cell HT4.out 1).trans rfl
  have d2 : w4.cell? ⟨g4, 2, none⟩ = some (.slice Af nf cf) := (blk_cell HT4.out 2).trans rfl
  have hr := (HB4.out.block gr HW1.out).trans HR0.out
  have HRr := Lib.hid hr
  have r0 : w4.cell? ⟨gr, 0, none⟩ = some (.string ⟨#[]⟩) := (blk_cell hr 0).trans rfl
  have r1 : w4.cell? ⟨gr, 1, none⟩ = some (.string ⟨#[]⟩) := (blk_cell hr 1).trans rfl
  have r2 : w4.cell? ⟨gr, 2, none⟩ = some (.slice none 0 0) := (blk_cell hr 2).trans rfl
  have t0 := blk_frozen hr 0
  have t1 := blk_frozen hr 1
  have t2 := blk_frozen hr 2
  clear hr
  go_wp2
  have hfin : (((w4.setCell ⟨gr, 0, none⟩ (.string (seed k))).setCell ⟨gr, 1, none⟩ (.string (nameOf (seed k)))).setCell ⟨gr, 2, none⟩ (.slice Af nf cf)).heap[gr]? = some (.cells #[.string (seed k), .string (nameOf (seed k)), .slice Af nf cf] 63 (0, 0)) := by
    rw [blk_set (blk_set (blk_set HRr.out 0 _) 1 _) 2 _]
    rfl
  have hk3 : Kp (fun k => k = gr) w4 (((w4.setCell ⟨gr, 0, none⟩ (.string (seed k))).setCell ⟨gr, 1, none⟩ (.string (nameOf (seed k)))).setCell ⟨gr, 2, none⟩ (.slice Af nf cf)) := (((Kp.refl (fun k => k = gr) w4).setCell (p := ⟨gr, 0, none⟩) (.inl rfl) _).setCell (p := ⟨gr, 1, none⟩) (.inl rfl) _).setCell (p := ⟨gr, 2, none⟩) (.inl rfl) _
  generalize ((w4.setCell ⟨gr, 0, none⟩ (.string (seed k))).setCell ⟨gr, 1, none⟩ (.string (nameOf (seed k)))).setCell ⟨gr, 2, none⟩ (.slice Af nf cf) = w5 at *
  have hB5 : Below w.heap.size w w5 := (hk3.below (HB0.out.trans (HB4.out.mono HB0.out.size)) (Nat.le_trans HB0.out.size HB4.out.size) (fun i hi => by rw [hi, HGR.out]; exact Nat.le_refl _))
  have hL5 : Lv w5 (fun i => i < w.heap.size) (.slice Af nf cf) (levels (seed k) h) := (HL4.out.kept (hk3.mono (fun i hi => by rw [hi]; exact HW1.out))).apart (fun i _ hk => Nat.lt_of_lt_of_le hk HB0.out.size)
  exact bodyPost_ret (v := .agg #[.string (seed k), .string (nameOf (seed k)), .slice Af nf cf]) (results_cell_row Try.results44 _ _ gr 63 _ (0, 0) _ rfl hfin Try.underlying63 rfl (by rw [size_rtree]; rfl)) rfl ⟨_, rfl, hL5, hB5⟩
set_option maxHeartbeats 1000000 in
set_option maxRecDepth 100000 in
theorem rkey_any (w : World) (s : ByteArray) (h : Nat) (h8 : h ≤ 8) (v : Value) (S : Nat → Prop) (hv : Lv w S v (levels s h)) :
    Calls Try.prog 43 #[.agg #[.string s, .string (nameOf s), v]] w fun e w' => e = .returned (.agg #[.int .i64 h, .string (nameOf s), .string (root s h)]) ∧ Below w.heap.size w w' := by
  obtain ⟨b, c, rfl, hc⟩ := hv.cell
  have hll := levels_len s h
  obtain ⟨u, hu, hst⟩ := hc h (by omega)
  rw [levels_get s h h (by omega)] at hst
  have hl0 := lev_len s (nameOf s) h h (Nat.le_refl _)
  rw [Nat.sub_self, Nat.pow_zero] at hl0
  obtain ⟨b2, c2, rfl, hc2⟩ := hst.cell
  have hr := hc2 0 (by omega)
  have er : (lev s (nameOf s) h h)[0] = root s h := by unfold root at_; rw [List.getD_eq_getElem?_getD, List.getElem?_eq_getElem (by omega)]; rfl
  rw [er] at hr
  rw [hl0] at hu
  rw [hll]
  clear hc hst hc2 er hl0 hv hll
  generalize root s h = r at *
  generalize nameOf s = id at *
  have q0 : (0 : Int) ≤ (h : Int) := by omega
  have q1 : (h : Int) < (h : Int) + 1 := by omega
  have hlb : b < w.heap.size := World.block_lt_of_cell? _ _ hu
  have hlb2 : b2 < w.heap.size := World.block_lt_of_cell? _ _ hr
  have hA := heap_alloc_new w (.cells #[.string s, .string id, .slice (some ⟨b, 0, none⟩) (h + 1) c] 63)
  have hA1 := (Below.heap_alloc (w.alloc (.cells #[.string s, .string id, .slice (some ⟨b, 0, none⟩) (h + 1) c] 63)) (.cells #[.int .i64 0, .string ⟨#[]⟩, .string ⟨#[]⟩] 58) w.heap.size (by simp)).trans hA
  have hK := heap_alloc_new (w.alloc (.cells #[.string s, .string id, .slice (some ⟨b, 0, none⟩) (h + 1) c] 63)) (.cells #[.int .i64 0, .string ⟨#[]⟩, .string ⟨#[]⟩] 58)
  have hzz : (w.alloc (.cells #[.string s, .string id, .slice (some ⟨b, 0, none⟩) (h + 1) c] 63)).heap.size = w.heap.size + 1 := by simp
  rw [hzz] at hK
  have hBB := below_alloc (below_alloc (Below.refl w.heap.size w) (.cells #[.string s, .string id, .slice (some ⟨b, 0, none⟩) (h + 1) c] 63)) (.cells #[.int .i64 0, .string ⟨#[]⟩, .string ⟨#[]⟩] 58)
  have hu1 := (hBB.cell (p := ⟨b, h, none⟩) hlb).trans hu
  have hr1 := (hBB.cell (p := ⟨b2, 0, none⟩) hlb2).trans hr
  have HA1 := Lib.hid hA1
  have HK := Lib.hid hK
  have HBB := Lib.hid hBB
  have HU1 := Lib.hid hu1
  have HR1 := Lib.hid hr1
  clear hA hA1 hK hBB hu1 hr1 hzz hu hr
  go_enter Try.func43, Try.ntmps43
  go_upto_region 1 with fail
  generalize (w.alloc (.cells #[.string s, .string id, .slice (some ⟨b, 0, none⟩) (h + 1) c] 63)).alloc (.cells #[.int .i64 0, .string ⟨#[]⟩, .string ⟨#[]⟩] 58) = w1 at *
  have u1 := HU1.out
  have v1 := HR1.out
  have d1 : w1.cell? ⟨w.heap.size, 1, none⟩ = some (.string id) := (blk_cell HA1.out 1).trans rfl
  have d2 : w1.cell? ⟨w.heap.size, 2, none⟩ = some (.slice (some ⟨b, 0, none⟩) (h + 1) c) := (blk_cell HA1.out 2).trans rfl
  have k0 : w1.cell? ⟨w.heap.size + 1, 0, none⟩ = some (.int .i64 0) := (blk_cell HK.out 0).trans rfl
  have k1 : w1.cell? ⟨w.heap.size + 1, 1, none⟩ = some (.string ⟨#[]⟩) := (blk_cell HK.out 1).trans rfl
  have k2 : w1.cell? ⟨w.heap.size + 1, 2, none⟩ = some (.string ⟨#[]⟩) := (blk_cell HK.out 2).trans rfl
  have l0 := blk_frozen HK.out 0
  have l1 := blk_frozen HK.out 1
  have l2 := blk_frozen HK.out 2
  have hne : w.heap.size ≠ w.heap.size + 1 := by omega
  have hneb : b ≠ w.heap.size + 1 := by omega
  have hneb2 : b2 ≠ w.heap.size + 1 := by omega
  have FA : ∀ (W : World) (a : Addr) (ha : a.block ≠ w.heap.size + 1) (x y z : Value), (((W.setCell ⟨w.heap.size + 1, 0, none⟩ x).setCell ⟨w.heap.size + 1, 1, none⟩ y).setCell ⟨w.heap.size + 1, 2, none⟩ z).drew.cell? a = W.cell? a := fun W a ha x y z => by
    show (((W.setCell ⟨w.heap.size + 1, 0, none⟩ x).setCell ⟨w.heap.size + 1, 1, none⟩ y).setCell ⟨w.heap.size + 1, 2, none⟩ z).cell? a = _
    rw [cell_far ha, cell_far ha, cell_far ha]
  have HFA := Lib.hid FA
  clear FA
  go_upto_region 2 with fail
  go_region_held3 (fun w' => w'.cell? ⟨w.heap.size, 1, none⟩ = some (.string id) ∧ w'.cell? ⟨w.heap.size, 2, none⟩ = some (.slice (some ⟨b, 0, none⟩) (h + 1) c) ∧ w'.cell? ⟨b, h, none⟩ = some (.slice (some ⟨b2, 0, none⟩) 1 c2) ∧ w'.cell? ⟨b2, 0, none⟩ = some (.string r))
    (first | (go_split_ands; refine ⟨?_, ?_, ?_, ?_⟩ <;> assumption) | exact ⟨(HFA.out w1 ⟨w.heap.size, 1, none⟩ hne _ _ _).trans d1, (HFA.out w1 ⟨w.heap.size, 2, none⟩ hne _ _ _).trans d2, (HFA.out w1 ⟨b, h, none⟩ hneb _ _ _).trans u1, (HFA.out w1 ⟨b2, 0, none⟩ hneb2 _ _ _).trans v1⟩ | go_keep) (fail)
  go_wp2
  have hfin : (((w1.setCell ⟨w.heap.size + 1, 0, none⟩ (.int .i64 h)).setCell ⟨w.heap.size + 1, 1, none⟩ (.string id)).setCell ⟨w.heap.size + 1, 2, none⟩ (.string r)).drew.heap[w.heap.size + 1]? = some (.cells #[.int .i64 h, .string id, .string r] 58 (0, 0)) := by
    show (((w1.setCell ⟨w.heap.size + 1, 0, none⟩ (.int .i64 h)).setCell ⟨w.heap.size + 1, 1, none⟩ (.string id)).setCell ⟨w.heap.size + 1, 2, none⟩ (.string r)).heap[w.heap.size + 1]? = _
    rw [blk_set (blk_set (blk_set HK.out 0 _) 1 _) 2 _]
    rfl
  have hB5 : Below w.heap.size w (((w1.setCell ⟨w.heap.size + 1, 0, none⟩ (.int .i64 h)).setCell ⟨w.heap.size + 1, 1, none⟩ (.string id)).setCell ⟨w.heap.size + 1, 2, none⟩ (.string r)).drew := below_drew (((HBB.out.setCell (p := ⟨w.heap.size + 1, 0, none⟩) (Nat.le_succ _) _).setCell (p := ⟨w.heap.size + 1, 1, none⟩) (Nat.le_succ _) _).setCell (p := ⟨w.heap.size + 1, 2, none⟩) (Nat.le_succ _) _)
  exact bodyPost_ret (v := .agg #[.int .i64 h, .string id, .string r]) (results_cell_row Try.results43 _ _ (w.heap.size + 1) 58 _ (0, 0) _ rfl hfin Try.underlying58 rfl (by rw [size_key]; rfl)) rfl ⟨rfl, hB5⟩
end Go.Proofs.Ytilehfdplgciiaa.Hand
