import Derived.Test.YtilehfdplgciiaaRGen
/-! The reference's trees, walked. -/
namespace Go.Proofs.Ytilehfdplgciiaa.Hand
open Go.RowKit Go.Proofs.YtilehfdplgciiaaW.PrintWords Go.Proofs.Ytilehfdplgciiaa.PLM Go.Proofs.Ytilehfdplgciiaa.Plain
set_option linter.unusedVariables false
attribute [local go_sem ↓] Go.wp_at_zero Go.wp_at_succ

/-- The reference's levels 0 to l lie in memory. -/
def GR (w0 : World) (gt : Nat) (s id : ByteArray) (h : Nat) (l : Nat) (u : Value) (W : World) : Prop :=
  ∃ v us, W.heap[gt]? = some (.cells #[.string s, .string id, v] 63 (0, 0)) ∧ W.ownsRow w0.heap.size 26 1 v (l + 1) us ∧ us.length = l + 1 ∧ (∀ i (hi : i < us.length), StrAt W (fun k => k < w0.heap.size) us[i] (lev s id h i)) ∧ StrAt W (fun k => k < w0.heap.size) u (lev s id h l) ∧ Below w0.heap.size w0 W
theorem StrAt.set {w : World} {S : Nat → Prop} {u : Value} {xs : List ByteArray} {g : Nat} {cs : Array Value} {t : TypeId} (h : StrAt w S u xs) (hg : w.heap[g]? = some (.cells cs t (0, 0))) (ht : t ≠ 9) (i : Nat) (x : Value) : StrAt (w.setCell ⟨g, i, none⟩ x) S u xs := by
  obtain ⟨b, c, rs, e, hb, hh, hr⟩ := h
  refine ⟨b, c, rs, e, hb, (Below.heap_setCell w _ _ b (fun e2 => ?_)).trans hh, hr⟩
  have e3 : b = g := e2
  subst e3
  rw [hh] at hg
  injection hg with hg
  injection hg with _ hg
  exact ht hg.symm
theorem GR_next {w wr w9 : World} {gt : Nat} {s id : ByteArray} {h l : Nat} {v v9 u : Value} {us : List Value} (hTr : wr.heap[gt]? = some (.cells #[.string s, .string id, v] 63 (0, 0))) (hgt : w.heap.size ≤ gt) (hown : wr.ownsRow w.heap.size 26 1 v us.length us) (hul : us.length = l)
    (hus : ∀ i (hi : i < us.length), StrAt wr (fun k => k < w.heap.size) us[i] (lev s id h i)) (hB : Below w.heap.size w wr) (hu : StrAt wr (fun k => k < w.heap.size) u (lev s id h l)) (hg9 : wr.grownBy w9 v.ownBlock)
    (ho9 : w9.ownsRow w.heap.size 26 1 v9 (us ++ [u]).length (us ++ [u])) : GR w gt s id h l u (w9.setCell ⟨gt, 2, none⟩ v9) := by
  have hT9 : w9.heap[gt]? = some (.cells #[.string s, .string id, v] 63 (0, 0)) := blk_grown hTr hg9 (fun e => own_apart hown hTr (by decide) gt e.symm rfl)
  have hty : ∀ k, v.ownBlock = some k → ∃ cs, wr.heap[k]? = some (.cells cs 26 (0, 0)) := fun k hk => own_typed hown k hk
  have hlen : (us ++ [u]).length = l + 1 := by simp [hul]
  have hB9 : Below w.heap.size w w9 := hB.grown hg9 hB.size (fun k hk => own_base hown k hk)
  refine ⟨v9, us ++ [u], ?_, ?_, hlen, ?_, (hu.grown hg9 hty).set hT9 (by decide) 2 v9, hB9.setCell hgt v9⟩
  · rw [blk_set hT9]
    rfl
  · rw [hlen] at ho9
    exact own_setCell ho9 (p := ⟨gt, 2, none⟩) (fun e => own_apart ho9 hT9 (by decide) gt e.symm rfl) _
  · intro i hi
    by_cases hil : i < us.length
    · rw [List.getElem_append_left hil]
      exact ((hus i hil).grown hg9 hty).set hT9 (by decide) 2 v9
    · obtain rfl : i = us.length := by simp at hi; omega
      rw [List.getElem_append_right (Nat.le_refl _)]
      simp only [Nat.sub_self, List.getElem_cons_zero]
      rw [hul]
      exact (hu.grown hg9 hty).set hT9 (by decide) 2 v9
theorem GR_end {w wr : World} {gt : Nat} {s id : ByteArray} {h : Nat} {u : Value} (hG : GR w gt s id h h u wr) : ∃ v, wr.heap[gt]? = some (.cells #[.string s, .string id, v] 63 (0, 0)) ∧ Lv wr (fun k => k < w.heap.size) v ((List.range (h + 1)).map (lev s id h)) ∧ Below w.heap.size w wr := by
  obtain ⟨v, us, hTr, hown, hul, hus, hst, hB⟩ := hG
  refine ⟨v, hTr, ?_, hB⟩
  rcases hown.2 with ⟨_, h2⟩ | ⟨b, cap, cur, rfl, hb, hh, hc, hm, hcur⟩
  · omega
  · refine ⟨b, cap, cur, by simp, by omega, hh, fun i hi => ?_⟩
    have hi2 : i < us.length := by simpa [hul] using hi
    refine ⟨us[i], ?_, ?_⟩
    · have h4 : (cur.toList.take ((h + 1) * 1))[i]? = us[i]? := by rw [hcur.2]
      rw [List.getElem?_take_of_lt (by omega)] at h4
      rw [← Array.getElem?_toList, h4, List.getElem?_eq_getElem hi2]
    · have := hus i hi2
      simpa using this
set_option maxHeartbeats 8000000 in
set_option maxRecDepth 100000 in
theorem rgen_any (w : World) (s : ByteArray) (h : Nat) (hs : s.size = 32) (h8 : h ≤ 8) :
    Calls Try.prog 46 #[.string s, .int .i64 h] w fun e w' => ∃ v, e = .returned (.tuple #[.agg #[.string s, .string (nameOf s), v], .int .i64 0]) ∧ Lv w' (fun k => k < w.heap.size) v (levels s h) ∧ Below w.heap.size w w' := by
  have hne : ((s.size : Int) != 32) = false := by simp; omega
  have q1 : (h : Int) ≤ 8 := by omega
  have hR : ∀ W : World, Kd.C Kd.string (W.alloc (.cells #[.string ⟨#[73]⟩, .string s] 9)) (some ⟨W.heap.size, 0, none⟩) 2 [⟨#[73]⟩, s] := fun W => strs_row (xs := [⟨#[73]⟩, s]) (heap_alloc_new W _) (by simp [maxLen])
  have HR := Lib.hid hR
  have hr0 := heap_alloc_new w (.cells #[.string ⟨#[]⟩, .string ⟨#[]⟩, .slice none 0 0] 63)
  have hB0 := below_alloc (Below.refl w.heap.size w) (.cells #[.string ⟨#[]⟩, .string ⟨#[]⟩, .slice none 0 0] 63)
  have HR0 := Lib.hid hr0
  have HB0 := Lib.hid hB0
  have HS := Lib.hid hs
  clear hR hs hr0 hB0
  go_enter Try.func46, Try.ntmps46
  go_upto_region 5 with fail
  generalize w.alloc (.cells #[.string ⟨#[]⟩, .string ⟨#[]⟩, .slice none 0 0] 63) = w1 at *
  have hr1 := HR0.out
  have HW1 := Lib.hid (blk_lt hr1)
  obtain ⟨gr, hgr⟩ : ∃ gr, gr = w.heap.size := ⟨_, rfl⟩
  rw [← hgr] at HR0 HW1 ⊢
  have HGR := Lib.hid hgr
  clear hgr hr1
  go_upto_region 6 with (go_at_call 65; refine (rname_any s (by rw [HS.out]; decide) _ 2 (Nat.le_refl _) _ (HR.out _)).mono ?_; rintro e w2 ⟨rfl, hb2⟩)
  have hgtz : w1.heap.size ≤ w2.heap.size := by have := hb2.size; simp at this; omega
  have hB3 : Below w1.heap.size w1 (w2.alloc (.cells #[.string s, .string (nameOf s), .slice none 0 0] 63)) := ((below_alloc (Below.refl w1.heap.size w1) _).trans (hb2.mono (by simp))).alloc hgtz _
  have hT3 := heap_alloc_new w2 (.cells #[.string s, .string (nameOf s), .slice none 0 0] 63)
  obtain ⟨gt, hgt⟩ : ∃ gt, gt = w2.heap.size := ⟨_, rfl⟩
  rw [← hgt] at hT3 hgtz ⊢
  have HB3 := Lib.hid hB3
  have HT3 := Lib.hid hT3
  generalize w2.alloc (.cells #[.string s, .string (nameOf s), .slice none 0 0] 63) = w3 at *
  clear hgt hT3 hB3 hb2 HR
  obtain ⟨n, hn⟩ : ∃ n, n = 2 ^ h := ⟨_, rfl⟩
  have hn1 : 0 < n := by rw [hn]; exact Nat.pow_pos (by decide)
  have hn2 : n ≤ 256 := by rw [hn]; exact pow_le8 h8
  have hpw : wrap64 ((2 : Int) ^ h) = (n : Int) := by rw [hn]; exact pow_w h h8
  have HN := Lib.hid hn
  have HP := Lib.hid hpw
  have hidz := nameOf_size s
  have HID := Lib.hid hidz
  clear hn hpw hidz hne
  generalize hid : nameOf s = id at *
  have HNM := Lib.hid hid
  clear hid
  go_wp2
  go_loopw [7, 8, 9, 10] (fun s7 s8 _ _ wr => ∃ k : Nat, k ≤ n ∧ s8 = .int .i64 k ∧ Kd.R Kd.string 9 wr w3.heap.size (fun _ => True) s7 (row0 id s k) ∧ Below w3.heap.size w3 wr) (fun _ s8 _ _ _ => (n - intOf s8).toNat)
  case atStart => exact ⟨0, Nat.zero_le _, rfl, Kd.R_nil _ _ _ _ _, Below.refl _ _⟩
  case round =>
    obtain ⟨k, hk, rfl, hR, hB⟩ := hrel
    have hTr := (hB.block gt (blk_lt HT3.out)).trans HT3.out
    have c1 : wr.cell? ⟨gt, 1, none⟩ = some (.string id) := (blk_cell hTr 1).trans rfl
    have HTr := Lib.hid hTr
    have HR := Lib.hid hR
    have HB := Lib.hid hB
    clear hTr hR hB
    have hpw := HP.out
    by_cases hlt : k < n
    · have hk1 : k < 256 := by omega
      have q0 : (k : Int) < n := by omega
      go_upto_region 11 with (go_at_call 33; refine (rpub_any id s k HID.out HS.out hk1 _).mono ?_; rintro e w4 ⟨rfl, hb4⟩)
      have hR4 := Kd.R_below HR.out hb4
      have HR4 := Lib.hid hR4
      have HB4 := Lib.hid (HB.out.trans (hb4.mono HB.out.size))
      clear hR4 HR HB hb4 c1 HTr hpw
      have hl := row0_len id s k
      have HL := Lib.hid hl
      clear hl
      go_wp2_with (at_builtin; refine Kd.R_append Kd.string (w0 := w3) w3.heap.size rfl (.tmp 44) (.tmp 46) 26 9 (.string ⟨#[]⟩) 16 rfl Try.underlying26 info_str rfl (by decide) (by omega) u7 (row0 id s k) (leafKey id s k) [.string (leafKey id s k)] (fun _ => True) (fun _ => False) rfl rfl ?aP (fun _ hk => hk.elim) (fun _ _ => trivial) HR4.out HB4.out HB4.out.size ?aL ?_; (case aP => exact rfl); (case aL => rw [HL.out]; omega); intro v5 w5 ho hb hg hat; rw [row0_succ] at ho)
      go_roundw
      case rel => exact ⟨k + 1, by omega, by go_num, ho, hb⟩
      case measure => simp [intOf]; omega
    · have hk2 : k = n := by omega
      subst hk2
      have hlen := row0_len id s k
      obtain ⟨A2, cp2, ev2⟩ := Kd.R_slice HR.out
      subst ev2
      have hz3 := HB3.out.size
      have hS := StrAt.of_own (S := fun j => j < w1.heap.size) HR.out (by omega) (fun j hj => by omega)
      have hS' : StrAt wr (fun j => j < w1.heap.size) (.slice A2 (row0 id s k).length cp2) (lev s id h 0) := by
        show StrAt wr _ _ ((List.range (2 ^ h)).map fun i => leafKey id s i)
        rw [← HN.out]
        exact hS
      have HSt := Lib.hid hS'
      rw [hlen] at *
      have d2 : wr.cell? ⟨gt, 2, none⟩ = some (.slice none 0 0) := (blk_cell HTr.out 2).trans rfl
      have e2 := blk_frozen HTr.out 2
      have hBw : Below w1.heap.size w1 wr := HB3.out.trans (HB.out.mono HB3.out.size)
      have HBw := Lib.hid hBw
      have hwz := hBw.size
      clear hS hS' hlen HR c1 hBw HT3
      go_upto_block 2 with (at_builtin; refine print_append (w0 := w1) w1.heap.size rfl (.tmp 49) (.tmp 51) 61 26 (.slice none 0 0) 24 rfl Try.underlying61 info_strs rfl (by decide) (.slice none 0 0) [] (.slice A2 k cp2) rfl rfl rfl (own_nil _ _ _ _) HBw.out hwz (by simp) ?_; intro v9 w9 ho9 hB9 hg9 hat9; have hT9 := blk_grown HTr.out hg9 (by simp [Value.ownBlock]); have k2 := (blk_cell hT9 2).trans rfl; have k2f := blk_frozen hT9 2; obtain ⟨A9, c9, rfl⟩ := own_slice ho9)
      have HG := Lib.hid (GR_next (l := 0) HTr.out hgtz (own_nil _ _ _ _) rfl (fun i hi => absurd hi (Nat.not_lt_zero i)) HBw.out HSt.out hg9 ho9)
      simp only [List.nil_append, List.length_cons, List.length_nil] at HG
      generalize w9.setCell ⟨gt, 2, none⟩ (.slice A9 (0 + 1) c9) = W1 at *
      clear HSt HTr HB HBw hg9 ho9 hB9 hat9 hT9 k2 k2f d2 e2 hpw hwz hz3 HB3
      obtain ⟨i0, hi0, hz0, hz1, hz2⟩ := info_parts info_str
      go_wp2
      go_loopw [7, 11, 12, 13] (fun s7 s11 _ _ wr => ∃ l : Nat, l ≤ h ∧ s11 = .int .i64 l ∧ GR w1 gt s id h l s7 wr) (fun _ s11 _ _ _ => (h - intOf s11).toNat)
      case atStart => exact ⟨0, Nat.zero_le _, rfl, HG.out⟩
      case round =>
        clear HG W1
        obtain ⟨l, hl, rfl, v, us, hTr, hown, hul, hus, hst, hBo⟩ := hrel
        have hgo := blk_lt hTr
        have c1 : wr.cell? ⟨gt, 1, none⟩ = some (.string id) := (blk_cell hTr 1).trans rfl
        have hxl := lev_len s id h l hl
        have hxz := lev_size s id h h8 HID.out HS.out l hl
        obtain ⟨b2, cap2, e2, hcells⟩ := hst.cell
        subst e2
        have HTr := Lib.hid hTr
        have Hown := Lib.hid hown
        have Hus := Lib.hid hus
        have Hul := Lib.hid hul
        have Hst := Lib.hid hst
        have HBo := Lib.hid hBo
        have Hcells := Lib.hid hcells
        rw [← hxl] at hxz
        have Hxz := Lib.hid hxz
        have Hxl := Lib.hid hxl
        clear hTr hown hus hul hst hBo hcells hxz hxl
        by_cases hlh : l < h
        · have hm : (lev s id h l).length ≤ 256 := by
            rw [Hxl.out]
            exact pow_le8 (by omega)
          have hev : (lev s id h l).length % 2 = 0 := by
            rw [Hxl.out, show h - l = (h - l - 1) + 1 by omega, Nat.pow_succ]
            omega
          have Hup := Lib.hid (show upTo id l (lev s id h l) ((lev s id h l).length / 2) = lev s id h (l + 1) from rfl)
          generalize lev s id h l = xs at *
          have q0 : (l : Int) < h := by omega
          obtain ⟨wo, hwo⟩ : ∃ wo : World, wo = wr := ⟨_, rfl⟩
          subst hwo
          go_wp2
          go_loopw [12, 13] (fun s12 s13 wq => ∃ j : Nat, j ≤ xs.length / 2 ∧ s13 = .int .i64 ((2 * j : Nat) : Int) ∧ wq.ownsRow wo.heap.size 9 1 s12 j (encs Value.string (upTo id l xs j)) ∧ Below wo.heap.size wo wq) (fun _ s13 _ => (xs.length - intOf s13).toNat)
          case atStart => exact ⟨0, Nat.zero_le _, rfl, own_nil _ _ _ _, Below.refl _ _⟩
          case round =>
            obtain ⟨j, hj, rfl, hO, hB⟩ := hrel
            by_cases hlt2 : j < xs.length / 2
            · have hca := Hcells.out (2 * j) (by omega)
              have hcb := Hcells.out (2 * j + 1) (by omega)
              have hza := Hxz.out (2 * j) (by omega)
              have hzb := Hxz.out (2 * j + 1) (by omega)
              have ea : xs[2 * j] = at_ xs (2 * j) := by unfold at_; rw [List.getD_eq_getElem?_getD, List.getElem?_eq_getElem (by omega)]; rfl
              have eb : xs[2 * j + 1] = at_ xs (2 * j + 1) := by unfold at_; rw [List.getD_eq_getElem?_getD, List.getElem?_eq_getElem (by omega)]; rfl
              rw [ea] at hca
              rw [eb] at hcb
              have hup := upTo_succ id l xs j
              obtain ⟨j1, hj1⟩ : ∃ j1, j1 = 2 * j := ⟨_, rfl⟩
              obtain ⟨j2, hj2⟩ : ∃ j2, j2 = 2 * j + 1 := ⟨_, rfl⟩
              rw [← hj2] at hcb hzb hup
              rw [← hj1] at hca hza hup ⊢
              have p1 : (0 : Int) ≤ (j1 : Int) := by omega
              have p2 : (j1 : Int) < (xs.length : Int) := by omega
              have p3 : (0 : Int) ≤ (j2 : Int) := by omega
              have p4 : (j2 : Int) < (xs.length : Int) := by omega
              have p5 : (j1 : Int) + 1 < (xs.length : Int) := by omega
              have w2 : IntKind.i64.wrap ((j1 : Int) + 1) = (j2 : Int) := (IntWalk.i64_in _ (by omega)).trans (by omega)
              have w4 : Int.tdiv (j1 : Int) 2 = (j : Int) := (Int.tdiv_eq_ediv_of_nonneg p1).trans (by omega)
              have w5 : IntKind.i64.wrap (j : Int) = (j : Int) := IntWalk.i64_in _ (by omega)
              have ca := (hB.cell (p := ⟨b2, j1, none⟩) (World.block_lt_of_cell? _ _ hca)).trans hca
              have cb := (hB.cell (p := ⟨b2, j2, none⟩) (World.block_lt_of_cell? _ _ hcb)).trans hcb
              have ci := (hB.cell (p := ⟨gt, 1, none⟩) hgo).trans c1
              generalize at_ xs j1 = a at *
              generalize at_ xs j2 = b at *
              have hbl : b2 < wo.heap.size := World.block_lt_of_cell? _ _ hca
              have hzq := hB.size
              have hne : ∀ bk, bk < wo.heap.size → some bk ≠ u12.ownBlock := fun bk hbk e => by have := own_base hO bk e.symm; omega
              have ng := hne gt hgo
              have nb2 := hne b2 hbl
              have hlen2 : j ≤ 256 := by omega
              have HO := Lib.hid hO
              have HB := Lib.hid hB
              have Hup2 := Lib.hid hup
              have HJ1 := Lib.hid hj1
              have HJ2 := Lib.hid hj2
              have HZA := Lib.hid hza
              have HZB := Lib.hid hzb
              clear hO hB hup hca hcb ea eb hj1 hj2 hza hzb c1 hne
              go_upto_region 20 with fail
              go_region_held3 (fun w' => w'.cell? ⟨gt, 1, none⟩ = some (.string id) ∧ w'.cell? ⟨b2, j1, none⟩ = some (.string a) ∧ w'.cell? ⟨b2, j2, none⟩ = some (.string b))
                (first
                  | go_keep
                  | (go_split_ands
                     refine ⟨?_, ?_, ?_⟩
                     · (rw [hgr5.cell_far _ (by simp; omega) ng]; assumption)
                     · (rw [hgr5.cell_far _ (by simp; omega) nb2]; assumption)
                     · (rw [hgr5.cell_far _ (by simp; omega) nb2]; assumption)))
                ((first
                  | (go_at_call 77; refine (rb1_any l _).mono ?_; rintro e w2 ⟨rfl, hb2⟩; have hzw : wr.heap.size ≤ w2.heap.size := hb2.size; have e1 := (hb2.cell (p := ⟨gt, 1, none⟩) (World.block_lt_of_cell? _ _ ci)).trans ci; have e2 := (hb2.cell (p := ⟨b2, j1, none⟩) (World.block_lt_of_cell? _ _ ca)).trans ca; have e3 := (hb2.cell (p := ⟨b2, j2, none⟩) (World.block_lt_of_cell? _ _ cb)).trans cb)
                  | (go_at_call 70; refine (rb4_any j _).mono ?_; rintro e w3 ⟨rfl, hb3⟩; have hzw3 : wr.heap.size ≤ w3.heap.size := Nat.le_trans hzw hb3.size; have f1 := (hb3.cell (p := ⟨gt, 1, none⟩) (World.block_lt_of_cell? _ _ e1)).trans e1; have f2 := (hb3.cell (p := ⟨b2, j1, none⟩) (World.block_lt_of_cell? _ _ e2)).trans e2; have f3 := (hb3.cell (p := ⟨b2, j2, none⟩) (World.block_lt_of_cell? _ _ e3)).trans e3)
                  | (go_at_call 65; refine (rpar_any id l j a b (by rw [HID.out]; decide) (by rw [HZA.out]; decide) (by rw [HZB.out]; decide) _ 6 (Nat.le_refl _) _ (strs_row (xs := [⟨#[78]⟩, id, b1 l, b4 j, a, b]) (heap_alloc_new w3 _) (by simp [maxLen]))).mono ?_; rintro e w4 ⟨rfl, hb4⟩; have hzw4 : wr.heap.size ≤ w4.heap.size := by { have := hb4.size; simp at this; omega }; have hb34 : Below w3.heap.size w3 w4 := (below_alloc (Below.refl w3.heap.size w3) _).trans (hb4.mono (by simp)); have g1 := (hb34.cell (p := ⟨gt, 1, none⟩) (World.block_lt_of_cell? _ _ f1)).trans f1; have g2 := (hb34.cell (p := ⟨b2, j1, none⟩) (World.block_lt_of_cell? _ _ f2)).trans f2; have g3 := (hb34.cell (p := ⟨b2, j2, none⟩) (World.block_lt_of_cell? _ _ f3)).trans f3)
                  | (refine step_append_lies _ (by rfl) _ _ _ (by rfl) wo.heap.size 9 i0 _ 1 16 Try.underlying26 hi0 hz0 hz1 hz2 rfl (by omega) u12 j (encs Value.string (upTo id l xs j)) (by rfl) ((pw_own_below (pw_own_below (pw_own_below (pw_own_below HO.out (below_drew (Below.refl _ _))) hb2) hb3) hb34).alloc _) ⟨w4.heap.size, 0, none⟩ 1 1 [.string (par id l j a b)] (by rfl) (by rfl) (World.news_of_block (cs := #[.string (par id l j a b)]) (t := 9) (fr := (0, 0)) (heap_alloc_new w4 _)) (by simp [Value.oneCell']) (by omega) (by simp [maxLen]; omega) (by omega) (by simp; omega) (w4.heap.size + 1) (by simp) ?_; intro g5 cap5 w5' ho5 hgr5 hat5 hlt5)))
              go_wp2
              go_roundw
              case rel => exact ⟨j + 1, by omega, by have := HJ1.out; congr 1; omega, by rw [← Hup2.out]; exact ho5, (((HB.out.trans ((below_drew (Below.refl _ wr)).mono hzq)).trans (hb2.mono hzq)).trans (hb3.mono (Nat.le_trans hzq hzw))).trans ((hb34.mono (Nat.le_trans hzq hzw3)).trans (((below_alloc (Below.refl _ w4) _).mono (Nat.le_trans hzq hzw4)).grown hgr5 (by simp; omega) (fun q e => own_base HO.out q e)))⟩
              case measure => simp [intOf]; omega
            · have hj2 : j = xs.length / 2 := by omega
              obtain ⟨j1, hj1⟩ : ∃ j1, j1 = 2 * j := ⟨_, rfl⟩
              rw [← hj1]
              have p1 : (xs.length : Int) ≤ (j1 : Int) + 1 := by omega
              have p2 : (j1 : Int) ≤ 256 := by omega
              clear hj1
              subst hj2
              have hp2 : 0 < 2 ^ (h - (l + 1)) := Nat.pow_pos (by decide)
              have hl1 : (lev s id h (l + 1)).length = xs.length / 2 := by
                rw [← Hup.out]
                simp [upTo]
              have hl2 := lev_len s id h (l + 1) (by omega)
              obtain ⟨A7, c7, e7⟩ := own_slice hO
              subst e7
              rw [Hup.out] at hO
              have hO2 := hO
              rw [← hl1] at hO2
              have hu := StrAt.of_own (S := fun k => k < w1.heap.size) (Kd.R_of_own hO2 (fun _ _ => trivial)) (by omega) (fun k hk => by have := HBo.out.size; omega)
              rw [hl1] at hu
              have hTw := (hB.block gt hgo).trans HTr.out
              have hOw := pw_own_below Hown.out hB
              have hBw : Below w1.heap.size w1 wr := HBo.out.trans (hB.mono HBo.out.size)
              have hUw : ∀ i (hi : i < us.length), StrAt wr (fun k => k < w1.heap.size) us[i] (lev s id h i) := fun i hi => (Hus.out i hi).kept (Kp.of_below _ hB)
              rw [← Hul.out] at hOw
              have HTw := Lib.hid hTw
              have HOw := Lib.hid hOw
              have HBw := Lib.hid hBw
              have HUw := Lib.hid hUw
              have HU := Lib.hid hu
              have d2 : wr.cell? ⟨gt, 2, none⟩ = some v := (blk_cell hTw 2).trans rfl
              have f2 := blk_frozen hTw 2
              have hwz := hBw.size
              have hus2 : us.length ≤ 9 := by rw [Hul.out]; omega
              clear hTw hOw hBw hUw hu hl1 hl2 hp2 hO hO2 hB c1 Hcells Hst HBo Hus Hown HTr Hxl Hxz Hup HN HP
              go_wp2_with (at_builtin; refine print_append (w0 := w1) w1.heap.size rfl (.tmp 89) (.tmp 91) 61 26 (.slice none 0 0) 24 rfl Try.underlying61 info_strs rfl (by decide) v us (.slice A7 (xs.length / 2) c7) rfl rfl rfl HOw.out HBw.out hwz (by omega) ?_; intro v9 w9 ho9 hB9 hg9 hat9; have hT9 := blk_grown HTw.out hg9 (fun e => own_apart HOw.out HTw.out (by decide) gt e.symm rfl); have d3 := (blk_cell hT9 2).trans rfl; have f3 := blk_frozen hT9 2; obtain ⟨A9, c9, rfl⟩ := own_slice ho9)
              go_roundw
              case rel => exact ⟨l + 1, by omega, by go_num, GR_next HTw.out hgtz HOw.out Hul.out HUw.out HBw.out HU.out hg9 (by have h0 := ho9; simp only [List.length_append, List.length_cons, List.length_nil] at h0 ⊢; exact h0)⟩
              case measure => simp [intOf]; omega
        · obtain rfl : l = h := by omega
          obtain ⟨vf, hTf, hLf, hBf⟩ := GR_end ⟨v, us, HTr.out, Hown.out, Hul.out, Hus.out, Hst.out, HBo.out⟩
          have d0 : wr.cell? ⟨gt, 0, none⟩ = some (.string s) := (blk_cell hTf 0).trans rfl
          have d1 : wr.cell? ⟨gt, 1, none⟩ = some (.string id) := (blk_cell hTf 1).trans rfl
          have d2 : wr.cell? ⟨gt, 2, none⟩ = some vf := (blk_cell hTf 2).trans rfl
          have hr := (hBf.block gr HW1.out).trans HR0.out
          have r0 : wr.cell? ⟨gr, 0, none⟩ = some (.string ⟨#[]⟩) := (blk_cell hr 0).trans rfl
          have r1 : wr.cell? ⟨gr, 1, none⟩ = some (.string ⟨#[]⟩) := (blk_cell hr 1).trans rfl
          have r2 : wr.cell? ⟨gr, 2, none⟩ = some (.slice none 0 0) := (blk_cell hr 2).trans rfl
          have t0 := blk_frozen hr 0
          have t1 := blk_frozen hr 1
          have t2 := blk_frozen hr 2
          have HRr := Lib.hid hr
          have HLf := Lib.hid hLf
          have HBf := Lib.hid hBf
          obtain ⟨Af, nf, cf, ef⟩ : ∃ Af nf cf, vf = .slice Af nf cf := by obtain ⟨b, c, rs, e, _⟩ := hLf; exact ⟨_, _, _, e⟩
          subst ef
          clear hTf hLf hBf hr HTr Hown Hus Hst HBo Hcells Hxz Hxl c1
          go_wp2
          have hfin : (((wr.setCell ⟨gr, 0, none⟩ (.string s)).setCell ⟨gr, 1, none⟩ (.string id)).setCell ⟨gr, 2, none⟩ (.slice Af nf cf)).heap[gr]? = some (.cells #[.string s, .string id, .slice Af nf cf] 63 (0, 0)) := by
            rw [blk_set (blk_set (blk_set HRr.out 0 _) 1 _) 2 _]
            rfl
          have hk3 : Kp (fun k => k = gr) wr (((wr.setCell ⟨gr, 0, none⟩ (.string s)).setCell ⟨gr, 1, none⟩ (.string id)).setCell ⟨gr, 2, none⟩ (.slice Af nf cf)) := (((Kp.refl (fun k => k = gr) wr).setCell (p := ⟨gr, 0, none⟩) (.inl rfl) _).setCell (p := ⟨gr, 1, none⟩) (.inl rfl) _).setCell (p := ⟨gr, 2, none⟩) (.inl rfl) _
          generalize ((wr.setCell ⟨gr, 0, none⟩ (.string s)).setCell ⟨gr, 1, none⟩ (.string id)).setCell ⟨gr, 2, none⟩ (.slice Af nf cf) = w4 at *
          have hB4 : Below w.heap.size w w4 := (hk3.below (HB0.out.trans (HBf.out.mono HB0.out.size)) (Nat.le_trans HB0.out.size HBf.out.size) (fun i hi => by rw [hi, HGR.out]; exact Nat.le_refl _))
          have hL4 : Lv w4 (fun k => k < w.heap.size) (.slice Af nf cf) (levels s l) := by
            unfold levels
            rw [HNM.out]
            exact ((HLf.out.apart (S2 := fun k => k < w1.heap.size) (fun k _ h => h)).kept (hk3.mono (fun i hi => by rw [hi]; exact HW1.out))).apart (fun k _ hk => Nat.lt_of_lt_of_le hk HB0.out.size)
          exact bodyPost_ret (v := .tuple #[.agg #[.string s, .string id, .slice Af nf cf], .int .i64 0]) (results_list (rs := [.cell 4 63, .tmp 5]) Try.results46 (by simp) (.cell gr 63 _ (0, 0) _ rfl hfin Try.underlying63 rfl (by rw [size_rtree]; rfl) (.tmp .nil))) rfl ⟨_, by rw [HNM.out], hL4, hB4⟩
end Go.Proofs.Ytilehfdplgciiaa.Hand
