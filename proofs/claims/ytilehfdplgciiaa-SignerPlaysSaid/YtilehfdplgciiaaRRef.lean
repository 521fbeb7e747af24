import Derived.Test.YtilehfdplgciiaaVer
/-! The reference's Generate, walked. -/
namespace Go.Proofs.Ytilehfdplgciiaa.Hand
open Go.RowKit Go.Proofs.YtilehfdplgciiaaW.PrintWords Go.Proofs.Ytilehfdplgciiaa.PLM Go.Proofs.Ytilehfdplgciiaa.Plain
set_option linter.unusedVariables false
attribute [local go_sem ↓] Go.wp_at_zero Go.wp_at_succ

theorem rpub_any (id s : ByteArray) (i : Nat) (h1 : id.size = 16) (h2 : s.size = 32) (h3 : i < 256) (W : World) :
    Calls Try.prog 33 #[.string id, .string s, .int .i64 i] W fun e w' => e = .returned (.tuple #[.string (leafKey id s i), .int .i64 0]) ∧ Below W.heap.size W w' :=
  certpathref11_Public.calls 60 id s i _ _ W (by rw [ref_pub_f id s i 60 (by decide), pubR_ok id s i h1 h2 h3])
theorem rb1_any (x : Int) (W : World) : Calls Try.prog 77 #[.int .i64 x] W fun e w' => e = .returned (.string (b1 x)) ∧ Below W.heap.size W w' := certpathref11_B1.calls x _ W rfl
theorem rb4_any (x : Int) (W : World) : Calls Try.prog 70 #[.int .i64 x] W fun e w' => e = .returned (.string (b4 x)) ∧ Below W.heap.size W w' := certpathref11_B4.calls x _ W rfl
theorem rname_any (s : ByteArray) (h : s.size ≤ 1000) (A : Option Addr) (c : Nat) (hc : 2 ≤ c) (W : World) (hR : Kd.C Kd.string W A 2 [⟨#[73]⟩, s]) :
    Calls Try.prog 65 #[.slice A 2 c] W fun e w' => e = .returned (.string (nameOf s)) ∧ Below W.heap.size W w' :=
  certpathref01_Short.calls A c [⟨#[73]⟩, s] _ W hR hc (ref_short _ (by rw [two_len]; show 1 + _ ≤ _; omega))
theorem rpar_any (id : ByteArray) (l i : Int) (a b : ByteArray) (h1 : id.size ≤ 1000) (h2 : a.size ≤ 1000) (h3 : b.size ≤ 1000) (A : Option Addr) (c : Nat) (hc : 6 ≤ c) (W : World) (hR : Kd.C Kd.string W A 6 [⟨#[78]⟩, id, b1 l, b4 i, a, b]) :
    Calls Try.prog 65 #[.slice A 6 c] W fun e w' => e = .returned (.string (par id l i a b)) ∧ Below W.heap.size W w' :=
  certpathref01_Short.calls A c [⟨#[78]⟩, id, b1 l, b4 i, a, b] _ W hR hc (ref_short _ (by rw [five_len, b1_size, b4_size]; show 1 + _ + _ + _ + _ + _ ≤ _; omega))
theorem size_rtree : (Try.prog.info? 63).map (·.size) = some 3 := by kernel_rfl
theorem rgen_size (w : World) (s : ByteArray) (h : Int) (hs : s.size ≠ 32) :
    Calls Try.prog 46 #[.string s, .int .i64 h] w fun e w' => e = .returned (.tuple #[.agg #[.string ⟨#[]⟩, .string ⟨#[]⟩, .slice none 0 0], .int .i64 18]) ∧ Below w.heap.size w w' := by
  have hne : ((s.size : Int) != 32) = true := by simp; omega
  have hB := below_alloc (Below.refl w.heap.size w) (.cells #[.string ⟨#[]⟩, .string ⟨#[]⟩, .slice none 0 0] 63)
  go_enter Try.func46, Try.ntmps46
  go_wp2
  exact bodyPost_ret (v := .tuple #[.agg #[.string ⟨#[]⟩, .string ⟨#[]⟩, .slice none 0 0], .int .i64 18]) (by simp [results, Try.results46, go_sem]) rfl ⟨rfl, hB⟩
theorem rgen_height (w : World) (s : ByteArray) (h : Int) (hs : s.size = 32) (hh : h < 0 ∨ 8 < h) :
    Calls Try.prog 46 #[.string s, .int .i64 h] w fun e w' => e = .returned (.tuple #[.agg #[.string ⟨#[]⟩, .string ⟨#[]⟩, .slice none 0 0], .int .i64 1]) ∧ Below w.heap.size w w' := by
  have hne : ((s.size : Int) != 32) = false := by simp; omega
  have hB := below_alloc (Below.refl w.heap.size w) (.cells #[.string ⟨#[]⟩, .string ⟨#[]⟩, .slice none 0 0] 63)
  rcases hh with h0 | h0
  all_goals
    go_enter Try.func46, Try.ntmps46
    go_wp2
    exact bodyPost_ret (v := .tuple #[.agg #[.string ⟨#[]⟩, .string ⟨#[]⟩, .slice none 0 0], .int .i64 1]) (by simp [results, Try.results46, go_sem]) rfl ⟨rfl, hB⟩
end Go.Proofs.Ytilehfdplgciiaa.Hand
/-! The reference's trees, walked. -/
namespace Go.Proofs.Ytilehfdplgciiaa.Hand
open Go.RowKit Go.Proofs.YtilehfdplgciiaaW.PrintWords Go.Proofs.Ytilehfdplgciiaa.PLM Go.Proofs.Ytilehfdplgciiaa.Plain
set_option linter.unusedVariables false
attribute [local go_sem ↓] Go.wp_at_zero Go.wp_at_succ

/-- The reference's levels 0 to l lie in memory. -/
def GR (w0 : World) (gt : Nat) (s id : ByteArray) (h : Nat) (l : Nat) (u : Value) (W : World) : Prop :=
  ∃ v us, W.heap[gt]? = some (.cells #[.string s, .string id, v] 63 (0, 0)) ∧ W.ownsRow w0.heap.size 26 1 v (l + 1) us ∧ us.length = l + 1 ∧ (∀ i (hi : i < us.length), StrAt W (fun k => k < w0.heap.size) us[i] (lev s id h i)) ∧ StrAt W (fun k => k < w0.heap.size) u (lev s id h l) ∧ Below w0.heap.size w0 W
theorem StrAt.set {w : World} {S : Nat → Prop} {u : Value} {xs : List ByteArray} {g : Nat} {cs : Array Value} {t : TypeId} (h : StrAt w S u xs) (hg : w.heap[g]? = some (.cells cs t (0, 0))) (ht : t ≠ 9) (i : Nat) (x : Value) : StrAt (w.setCell ⟨g, i, none⟩ x) S u xs := by
  obtain ⟨b, c, rs, e, hb, hh, hr⟩ := h
  refine ⟨b, c, rs, e, hb, (Below.heap_setCell w _ _ b (fun e2 => ?_)).trans hh, hr⟩
  have e3 : b = g := e2
  subst e3
  rw [hh] at hg
  injection hg with hg
  injection hg with _ hg
  exact ht hg.symm
theorem GR_next {w wr w9 : World} {gt : Nat} {s id : ByteArray} {h l : Nat} {v v9 u : Value} {us : List Value} (hTr : wr.heap[gt]? = some (.cells #[.string s, .string id, v] 63 (0, 0))) (hgt : w.heap.size ≤ gt) (hown : wr.ownsRow w.heap.size 26 1 v us.length us) (hul : us.length = l)
    (hus : ∀ i (hi : i < us.length), StrAt wr (fun k => k < w.heap.size) us[i] (lev s id h i)) (hB : Below w.heap.size w wr) (hu : StrAt wr (fun k => k < w.heap.size) u (lev s id h l)) (hg9 : wr.grownBy w9 v.ownBlock)
    (ho9 : w9.ownsRow w.heap.size 26 1 v9 (us ++ [u]).length (us ++ [u])) : GR w gt s id h l u (w9.setCell ⟨gt, 2, none⟩ v9) := by
  have hT9 : w9.heap[gt]? = some (.cells #[.string s, .string id, v] 63 (0, 0)) := blk_grown hTr hg9 (fun e => own_apart hown hTr (by decide) gt e.symm rfl)
  have hty : ∀ k, v.ownBlock = some k → ∃ cs, wr.heap[k]? = some (.cells cs 26 (0, 0)) := fun k hk => own_typed hown k hk
  have hlen : (us ++ [u]).length = l + 1 := by simp [hul]
  have hB9 : Below w.heap.size w w9 := hB.grown hg9 hB.size (fun k hk => own_base hown k hk)
  refine ⟨v9, us ++ [u], ?_, ?_, hlen, ?_, (hu.grown hg9 hty).set hT9 (by decide) 2 v9, hB9.setCell hgt v9⟩
  · rw [blk_set hT9]
    rfl
  · rw [hlen] at ho9
    exact own_setCell ho9 (p := ⟨gt, 2, none⟩) (fun e => own_apart ho9 hT9 (by decide) gt e.symm rfl) _
  · intro i hi
    by_cases hil : i < us.length
    · rw [List.getElem_append_left hil]
      exact ((hus i hil).grown hg9 hty).set hT9 (by decide) 2 v9
    · obtain rfl : i = us.length := by simp at hi; omega
      rw [List.getElem_append_right (Nat.le_refl _)]
      simp only [Nat.sub_self, List.getElem_cons_zero]
      rw [hul]
      exact (hu.grown hg9 hty).set hT9 (by decide) 2 v9
theorem GR_end {w wr : World} {gt : Nat} {s id : ByteArray} {h : Nat} {u : Value} (hG : GR w gt s id h h u wr) : ∃ v, wr.heap[gt]? = some (.cells #[.string s, .string id, v] 63 (0, 0)) ∧ Lv wr (fun k => k < w.heap.size) v ((List.range (h + 1)).map (lev s id h)) ∧ Below w.heap.size w wr := by
  obtain ⟨v, us, hTr, hown, hul, hus, hst, hB⟩ := hG
  refine ⟨v, hTr, ?_, hB⟩
  rcases hown.2 with ⟨_, h2⟩ | ⟨b, cap, cur, rfl, hb, hh, hc, hm, hcur⟩
  · omega
  · refine ⟨b, cap, cur, by simp, by omega, hh, fun i hi => ?_⟩
    have hi2 : i < us.length := by simpa [hul] using hi
    refine ⟨us[i], ?_, ?_⟩
    · have h4 : (cur.toList.take ((h + 1) * 1))[i]? = us[i]? := by rw [hcur.2]
      rw [List.getElem?_take_of_lt (by omega)] at h4
      rw [← Array.getElem?_toList, h4, List.getElem?_eq_getElem hi2]
    · have := hus i hi2
      simpa using this
set_option maxHeartbeats 8000000 in
set_option maxRecDepth 100000 in
theorem rgen_any (w : World) (s : ByteArray) (h : Nat) (hs : s.size = 32) (h8 : h ≤ 8) :
    Calls Try.prog 46 #[.string s, .int .i64 h] w fun e w' => ∃ v, e = .returned (.tuple #[.agg #[.string s, .string (nameOf s), v], .int .i64 0]) ∧ Lv w' (fun k => k < w.heap.size) v (levels s h) ∧ Below w.heap.size w w' := by
  have hne : ((s.size : Int) != 32) = false := by simp; omega
  have q1 : (h : Int) ≤ 8 := by omega
  have hR : ∀ W : World, Kd.C Kd.string (W.alloc (.cells #[.string ⟨#[73]⟩, .string s] 9)) (some ⟨W.heap.size, 0, none⟩) 2 [⟨#[73]⟩, s] := fun W => strs_row (xs := [⟨#[73]⟩, s]) (heap_alloc_new W _) (by simp [maxLen])
  have HR := Lib.hid hR
  have hr0 := heap_alloc_new w (.cells #[.string ⟨#[]⟩, .string ⟨#[]⟩, .slice none 0 0] 63)
  have hB0 := below_alloc (Below.refl w.heap.size w) (.cells #[.string ⟨#[]⟩, .string ⟨#[]⟩, .slice none 0 0] 63)
  have HR0 := Lib.hid hr0
  have HB0 := Lib.hid hB0
  have HS := Lib.hid hs
  clear hR hs hr0 hB0
  go_enter Try.func46, Try.ntmps46
  go_upto_region 5 with fail
  generalize w.alloc (.cells #[.string ⟨#[]⟩, .string ⟨#[]⟩, .slice none 0 0] 63) = w1 at *
  have hr1 := HR0.out
  have HW1 := Lib.hid (blk_lt hr1)
  obtain ⟨gr, hgr⟩ : ∃ gr, gr = w.heap.size := ⟨_, rfl⟩
  rw [← hgr] at HR0 HW1 ⊢
  have HGR := Lib.hid hgr
  clear hgr hr1
  go_upto_region 6 with (go_at_call 65; refine (rname_any s (by rw [HS.out]; decide) _ 2 (Nat.le_refl _) _ (HR.out _)).mono ?_; rintro e w2 ⟨rfl, hb2⟩)
  have hgtz : w1.heap.size ≤ w2.heap.size := by have := hb2.size; simp at this; omega
  have hB3 : Below w1.heap.size w1 (w2.alloc (.cells #[.string s, .string (nameOf s), .slice none 0 0] 63)) := ((below_alloc (Below.refl w1.heap.size w1) _).trans (hb2.mono (by simp))).alloc hgtz _
  have hT3 := heap_alloc_new w2 (.cells #[.string s, .string (nameOf s), .slice none 0 0] 63)
  obtain ⟨gt, hgt⟩ : ∃ gt, gt = w2.heap.size := ⟨_, rfl⟩
  rw [← hgt] at hT3 hgtz ⊢
  have HB3 := Lib.hid hB3
  have HT3 := Lib.hid hT3
  generalize w2.alloc (.cells #[.string s, .string (nameOf s), .slice none 0 0] 63) = w3 at *
  clear hgt hT3 hB3 hb2 HR
  obtain ⟨n, hn⟩ : ∃ n, n = 2 ^ h := ⟨_, rfl⟩
  have hn1 : 0 < n := by rw [hn]; exact Nat.pow_pos (by decide)
  have hn2 : n ≤ 256 := by rw [hn]; exact pow_le8 h8
  have hpw : wrap64 ((2 : Int) ^ h) = (n : Int) := by rw [hn]; exact pow_w h h8
  have HN := Lib.hid hn
  have HP := Lib.hid hpw
  have hidz := nameOf_size s
  have HID := Lib.hid hidz
  clear hn hpw hidz hne
  generalize hid : nameOf s = id at *
  have HNM := Lib.hid hid
  clear hid
  go_wp2
  go_loopw [7, 8, 9, 10] (fun s7 s8 _ _ wr => ∃ k : Nat, k ≤ n ∧ s8 = .int .i64 k ∧ Kd.R Kd.string 9 wr w3.heap.size (fun _ => True) s7 (row0 id s k) ∧ Below w3.heap.size w3 wr) (fun _ s8 _ _ _ => (n - intOf s8).toNat)
  case atStart => exact ⟨0, Nat.zero_le _, rfl, Kd.R_nil _ _ _ _ _, Below.refl _ _⟩
  case round =>
    obtain ⟨k, hk, rfl, hR, hB⟩ := hrel
    have hTr := (hB.block gt (blk_lt HT3.out)).trans HT3.out
    have c1 : wr.cell? ⟨gt, 1, none⟩ = some (.string id) := (blk_cell hTr 1).trans rfl
    have HTr := Lib.hid hTr
    have HR := Lib.hid hR
    have HB := Lib.hid hB
    clear hTr hR hB
    have hpw := HP.out
    by_cases hlt : k < n
    · have hk1 : k < 256 := by omega
      have q0 : (k : Int) < n := by omega
      go_upto_region 11 with (go_at_call 33; refine (rpub_any id s k HID.out HS.out hk1 _).mono ?_; rintro e w4 ⟨rfl, hb4⟩)
      have hR4 := Kd.R_below HR.out hb4
      have HR4 := Lib.hid hR4
      have HB4 := Lib.hid (HB.out.trans (hb4.mono HB.out.size))
      clear hR4 HR HB hb4 c1 HTr hpw
      have hl := row0_len id s k
      have HL := Lib.hid hl
      clear hl
      go_wp2_with (at_builtin; refine Kd.R_append Kd.string (w0 := w3) w3.heap.size rfl (.tmp 44) (.tmp 46) 26 9 (.string ⟨#[]⟩) 16 rfl Try.underlying26 info_str rfl (by decide) (by omega) u7 (row0 id s k) (leafKey id s k) [.string (leafKey id s k)] (fun _ => True) (fun _ => False) rfl rfl ?aP (fun _ hk => hk.elim) (fun _ _ => trivial) HR4.out HB4.out HB4.out.size ?aL ?_; (case aP => exact rfl); (case aL => rw [HL.out]; omega); intro v5 w5 ho hb hg hat; rw [row0_succ] at ho)
      go_roundw
      case rel => exact ⟨k + 1, by omega, by go_num, ho, hb⟩
      case measure => simp [intOf]; omega
    · have hk2 : k = n := by omega
      subst hk2
      have hlen := row0_len id s k
      obtain ⟨A2, cp2, ev2⟩ := Kd.R_slice HR.out
      subst ev2
      have hz3 := HB3.out.size
      have hS := StrAt.of_own (S := fun j => j < w1.heap.size) HR.out (by omega) (fun j hj => by omega)
      have hS' : StrAt wr (fun j => j < w1.heap.size) (.slice A2 (row0 id s k).length cp2) (lev s id h 0) := by
        show StrAt wr _ _ ((List.range (2 ^ h)).map fun i => leafKey id s i)
        rw [← HN.out]
        exact hS
      have HSt := Lib.hid hS'
      rw [hlen] at *
      have d2 : wr.cell? ⟨gt, 2, none⟩ = some (.slice none 0 0) := (blk_cell HTr.out 2).trans rfl
      have e2 := blk_frozen HTr.out 2
      have hBw : Below w1.heap.size w1 wr := HB3.out.trans (HB.out.mono HB3.out.size)
      have HBw := Lib.hid hBw
      have hwz := hBw.size
      clear hS hS' hlen HR c1 hBw HT3
      go_upto_block 2 with (at_builtin; refine print_append (w0 := w1) w1.heap.size rfl (.tmp 49) (.tmp 51) 61 26 (.slice none 0 0) 24 rfl Try.underlying61 info_strs rfl (by decide) (.slice none 0 0) [] (.slice A2 k cp2) rfl rfl rfl (own_nil _ _ _ _) HBw.out hwz (by simp) ?_; intro v9 w9 ho9 hB9 hg9 hat9; have hT9 := blk_grown HTr.out hg9 (by simp [Value.ownBlock]); have k2 := (blk_cell hT9 2).trans rfl; have k2f := blk_frozen hT9 2; obtain ⟨A9, c9, rfl⟩ := own_slice ho9)
      have HG := Lib.hid (GR_next (l := 0) HTr.out hgtz (own_nil _ _ _ _) rfl (fun i hi => absurd hi (Nat.not_lt_zero i)) HBw.out HSt.out hg9 ho9)
      simp only [List.nil_append, List.length_cons, List.length_nil] at HG
      generalize w9.setCell ⟨gt, 2, none⟩ (.slice A9 (0 + 1) c9) = W1 at *
      clear HSt HTr HB HBw hg9 ho9 hB9 hat9 hT9 k2 k2f d2 e2 hpw hwz hz3 HB3
      obtain ⟨i0, hi0, hz0, hz1, hz2⟩ := info_parts info_str
      go_wp2
      go_loopw [7, 11, 12, 13] (fun s7 s11 _ _ wr => ∃ l : Nat, l ≤ h ∧ s11 = .int .i64 l ∧ GR w1 gt s id h l s7 wr) (fun _ s11 _ _ _ => (h - intOf s11).toNat)
      case atStart => exact ⟨0, Nat.zero_le _, rfl, HG.out⟩
      case round =>
        clear HG W1
        obtain ⟨l, hl, rfl, v, us, hTr, hown, hul, hus, hst, hBo⟩ := hrel
        have hgo := blk_lt hTr
        have c1 : wr.cell? ⟨gt, 1, none⟩ = some (.string id) := (blk_cell hTr 1).trans rfl
        have hxl := lev_len s id h l hl
        have hxz := lev_size s id h h8 HID.out HS.out l hl
        obtain ⟨b2, cap2, e2, hcells⟩ := hst.cell
        subst e2
        have HTr := Lib.hid hTr
        have Hown := Lib.hid hown
        have Hus := Lib.hid hus
        have Hul := Lib.hid hul
        have Hst := Lib.hid hst
        have HBo := Lib.hid hBo
        have Hcells := Lib.hid hcells
        rw [← hxl] at hxz
        have Hxz := Lib.hid hxz
        have Hxl := Lib.hid hxl
        clear hTr hown hus hul hst hBo hcells hxz hxl
        by_cases hlh : l < h
        · have hm : (lev s id h l).length ≤ 256 := by
            rw [Hxl.out]
            exact pow_le8 (by omega)
          have hev : (lev s id h l).length % 2 = 0 := by
            rw [Hxl.out, show h - l = (h - l - 1) + 1 by omega, Nat.pow_succ]
            omega
          have Hup := Lib.hid (show upTo id l (lev s id h l) ((lev s id h l).length / 2) = lev s id h (l + 1) from rfl)
          generalize lev s id h l = xs at *
          have q0 : (l : Int) < h := by omega
          obtain ⟨wo, hwo⟩ : ∃ wo : World, wo = wr := ⟨_, rfl⟩
          subst hwo
          go_wp2
          go_loopw [12, 13] (fun s12 s13 wq => ∃ j : Nat, j ≤ xs.length / 2 ∧ s13 = .int .i64 ((2 * j : Nat) : Int) ∧ wq.ownsRow wo.heap.size 9 1 s12 j (encs Value.string (upTo id l xs j)) ∧ Below wo.heap.size wo wq) (fun _ s13 _ => (xs.length - intOf s13).toNat)
          case atStart => exact ⟨0, Nat.zero_le _, rfl, own_nil _ _ _ _, Below.refl _ _⟩
          case round =>
            obtain ⟨j, hj, rfl, hO, hB⟩ := hrel
            by_cases hlt2 : j < xs.length / 2
            · have hca := Hcells.out (2 * j) (by omega)
              have hcb := Hcells.out (2 * j + 1) (by omega)
              have hza := Hxz.out (2 * j) (by omega)
              have hzb := Hxz.out (2 * j + 1) (by omega)
              have ea : xs[2 * j] = at_ xs (2 * j) := by unfold at_; rw [List.getD_eq_getElem?_getD, List.getElem?_eq_getElem (by omega)]; rfl
              have eb : xs[2 * j + 1] = at_ xs (2 * j + 1) := by unfold at_; rw [List.getD_eq_getElem?_getD, List.getElem?_eq_getElem (by omega)]; rfl
              rw [ea] at hca
              rw [eb] at hcb
              have hup := upTo_succ id l xs j
              obtain ⟨j1, hj1⟩ : ∃ j1, j1 = 2 * j := ⟨_, rfl⟩
              obtain ⟨j2, hj2⟩ : ∃ j2, j2 = 2 * j + 1 := ⟨_, rfl⟩
              rw [← hj2] at hcb hzb hup
              rw [← hj1] at hca hza hup ⊢
              have p1 : (0 : Int) ≤ (j1 : Int) := by omega
              have p2 : (j1 : Int) < (xs.length : Int) := by omega
              have p3 : (0 : Int) ≤ (j2 : Int) := by omega
              have p4 : (j2 : Int) < (xs.length : Int) := by omega
              have p5 : (j1 : Int) + 1 < (xs.length : Int) := by omega
              have w2 : IntKind.i64.wrap ((j1 : Int) + 1) = (j2 : Int) := (IntWalk.i64_in _ (by omega)).trans (by omega)
              have w4 : Int.tdiv (j1 : Int) 2 = (j : Int) := (Int.tdiv_eq_ediv_of_nonneg p1).trans (by omega)
              have w5 : IntKind.i64.wrap (j : Int) = (j : Int) := IntWalk.i64_in _ (by omega)
              have ca := (hB.cell (p := ⟨b2, j1, none⟩) (World.block_lt_of_cell? _ _ hca)).trans hca
              have cb := (hB.cell (p := ⟨b2, j2, none⟩) (World.block_lt_of_cell? _ _ hcb)).trans hcb
              have ci := (hB.cell (p := ⟨gt, 1, none⟩) hgo).trans c1
              generalize at_ xs j1 = a at *
              generalize at_ xs j2 = b at *
              have hbl : b2 < wo.heap.size := World.block_lt_of_cell? _ _ hca
              have hzq := hB.size
              have hne : ∀ bk, bk < wo.heap.size → some bk ≠ u12.ownBlock := fun bk hbk e => by have := own_base hO bk e.symm; omega
              have ng := hne gt hgo
              have nb2 := hne b2 hbl
              have hlen2 : j ≤ 256 := by omega
              have HO := Lib.hid hO
              have HB := Lib.hid hB
              have Hup2 := Lib.hid hup
              have HJ1 := Lib.hid hj1
              have HJ2 := Lib.hid hj2
              have HZA := Lib.hid hza
              have HZB := Lib.hid hzb
              clear hO hB hup hca hcb ea eb hj1 hj2 hza hzb c1 hne
              go_upto_region 20 with fail
              go_region_held3 (fun w' => w'.cell? ⟨gt, 1, none⟩ = some (.string id) ∧ w'.cell? ⟨b2, j1, none⟩ = some (.string a) ∧ w'.cell? ⟨b2, j2, none⟩ = some (.string b))
                (first
                  | go_keep
                  | (go_split_ands
                     refine ⟨?_, ?_, ?_⟩
                     · (rw [hgr5.cell_far _ (by simp; omega) ng]; assumption)
                     · (rw [hgr5.cell_far _ (by simp; omega) nb2]; assumption)
                     · (rw [hgr5.cell_far _ (by simp; omega) nb2]; assumption)))
                ((first
                  | (go_at_call 77; refine (rb1_any l _).mono ?_; rintro e w2 ⟨rfl, hb2⟩; have hzw : wr.heap.size ≤ w2.heap.size := hb2.size; have e1 := (hb2.cell (p := ⟨gt, 1, none⟩) (World.block_lt_of_cell? _ _ ci)).trans ci; have e2 := (hb2.cell (p := ⟨b2, j1, none⟩) (World.block_lt_of_cell? _ _ ca)).trans ca; have e3 := (hb2.cell (p := ⟨b2, j2, none⟩) (World.block_lt_of_cell? _ _ cb)).trans cb)
                  | (go_at_call 70; refine (rb4_any j _).mono ?_; rintro e w3 ⟨rfl, hb3⟩; have hzw3 : wr.heap.size ≤ w3.heap.size := Nat.le_trans hzw hb3.size; have f1 := (hb3.cell (p := ⟨gt, 1, none⟩) (World.block_lt_of_cell? _ _ e1)).trans e1; have f2 := (hb3.cell (p := ⟨b2, j1, none⟩) (World.block_lt_of_cell? _ _ e2)).trans e2; have f3 := (hb3.cell (p := ⟨b2, j2, none⟩) (World.block_lt_of_cell? _ _ e3)).trans e3)
                  | (go_at_call 65; refine (rpar_any id l j a b (by rw [HID.out]; decide) (by rw [HZA.out]; decide) (by rw [HZB.out]; decide) _ 6 (Nat.le_refl _) _ (strs_row (xs := [⟨#[78]⟩, id, b1 l, b4 j, a, b]) (heap_alloc_new w3 _) (by simp [maxLen]))).mono ?_; rintro e w4 ⟨rfl, hb4⟩; have hzw4 : wr.heap.size ≤ w4.heap.size := by { have := hb4.size; simp at this; omega }; have hb34 : Below w3.heap.size w3 w4 := (below_alloc (Below.refl w3.heap.size w3) _).trans (hb4.mono (by simp)); have g1 := (hb34.cell (p := ⟨gt, 1, none⟩) (World.block_lt_of_cell? _ _ f1)).trans f1; have g2 := (hb34.cell (p := ⟨b2, j1, none⟩) (World.block_lt_of_cell? _ _ f2)).trans f2; have g3 := (hb34.cell (p := ⟨b2, j2, none⟩) (World.block_lt_of_cell? _ _ f3)).trans f3)
                  | (refine step_append_lies _ (by rfl) _ _ _ (by rfl) wo.heap.size 9 i0 _ 1 16 Try.underlying26 hi0 hz0 hz1 hz2 rfl (by omega) u12 j (encs Value.string (upTo id l xs j)) (by rfl) ((pw_own_below (pw_own_below (pw_own_below (pw_own_below HO.out (below_drew (Below.refl _ _))) hb2) hb3) hb34).alloc _) ⟨w4.heap.size, 0, none⟩ 1 1 [.string (par id l j a b)] (by rfl) (by rfl) (World.news_of_block (cs := #[.string (par id l j a b)]) (t := 9) (fr := (0, 0)) (heap_alloc_new w4 _)) (by simp [Value.oneCell']) (by omega) (by simp [maxLen]; omega) (by omega) (by simp; omega) (w4.heap.size + 1) (by simp) ?_; intro g5 cap5 w5' ho5 hgr5 hat5 hlt5)))
              go_wp2
              go_roundw
              case rel => exact ⟨j + 1, by omega, by have := HJ1.out; congr 1; omega, by rw [← Hup2.out]; exact ho5, (((HB.out.trans ((below_drew (Below.refl _ wr)).mono hzq)).trans (hb2.mono hzq)).trans (hb3.mono (Nat.le_trans hzq hzw))).trans ((hb34.mono (Nat.le_trans hzq hzw3)).trans (((below_alloc (Below.refl _ w4) _).mono (Nat.le_trans hzq hzw4)).grown hgr5 (by simp; omega) (fun q e => own_base HO.out q e)))⟩
              case measure => simp [intOf]; omega
            · have hj2 : j = xs.length / 2 := by omega
              obtain ⟨j1, hj1⟩ : ∃ j1, j1 = 2 * j := ⟨_, rfl⟩
              rw [← hj1]
              have p1 : (xs.length : Int) ≤ (j1 : Int) + 1 := by omega
              have p2 : (j1 : Int) ≤ 256 := by omega
              clear hj1
              subst hj2
              have hp2 : 0 < 2 ^ (h - (l + 1)) := Nat.pow_pos (by decide)
              have hl1 : (lev s id h (l + 1)).length = xs.length / 2 := by
                rw [← Hup.out]
                simp [upTo]
              have hl2 := lev_len s id h (l + 1) (by omega)
              obtain ⟨A7, c7, e7⟩ := own_slice hO
              subst e7
              rw [Hup.out] at hO
              have hO2 := hO
              rw [← hl1] at hO2
              have hu := StrAt.of_own (S := fun k => k < w1.heap.size) (Kd.R_of_own hO2 (fun _ _ => trivial)) (by omega) (fun k hk => by have := HBo.out.size; omega)
              rw [hl1] at hu
              have hTw := (hB.block gt hgo).trans HTr.out
              have hOw := pw_own_below Hown.out hB
              have hBw : Below w1.heap.size w1 wr := HBo.out.trans (hB.mono HBo.out.size)
              have hUw : ∀ i (hi : i < us.length), StrAt wr (fun k => k < w1.heap.size) us[i] (lev s id h i) := fun i hi => (Hus.out i hi).kept (Kp.of_below _ hB)
              rw [← Hul.out] at hOw
              have HTw := Lib.hid hTw
              have HOw := Lib.hid hOw
              have HBw := Lib.hid hBw
              have HUw := Lib.hid hUw
              have HU := Lib.hid hu
              have d2 : wr.cell? ⟨gt, 2, none⟩ = some v := (blk_cell hTw 2).trans rfl
              have f2 := blk_frozen hTw 2
              have hwz := hBw.size
              have hus2 : us.length ≤ 9 := by rw [Hul.out]; omega
              clear hTw hOw hBw hUw hu hl1 hl2 hp2 hO hO2 hB c1 Hcells Hst HBo Hus Hown HTr Hxl Hxz Hup HN HP
              go_wp2_with (at_builtin; refine print_append (w0 := w1) w1.heap.size rfl (.tmp 89) (.tmp 91) 61 26 (.slice none 0 0) 24 rfl Try.underlying61 info_strs rfl (by decide) v us (.slice A7 (xs.length / 2) c7) rfl rfl rfl HOw.out HBw.out hwz (by omega) ?_; intro v9 w9 ho9 hB9 hg9 hat9; have hT9 := blk_grown HTw.out hg9 (fun e => own_apart HOw.out HTw.out (by decide) gt e.symm rfl); have d3 := (blk_cell hT9 2).trans rfl; have f3 := blk_frozen hT9 2; obtain ⟨A9, c9, rfl⟩ := own_slice ho9)
              go_roundw
              case rel => exact ⟨l + 1, by omega, by go_num, GR_next HTw.out hgtz HOw.out Hul.out HUw.out HBw.out HU.out hg9 (by have h0 := ho9; simp only [List.length_append, List.length_cons, List.length_nil] at h0 ⊢; exact h0)⟩
              case measure => simp [intOf]; omega
        · obtain rfl : l = h := by omega
          obtain ⟨vf, hTf, hLf, hBf⟩ := GR_end ⟨v, us, HTr.out, Hown.out, Hul.out, Hus.out, Hst.out, HBo.out⟩
          have d0 : wr.cell? ⟨gt, 0, none⟩ = some (.string s) := (blk_cell hTf 0).trans rfl
          have d1 : wr.cell? ⟨gt, 1, none⟩ = some (.string id) := (blk_cell hTf 1).trans rfl
          have d2 : wr.cell? ⟨gt, 2, none⟩ = some vf := (blk_cell hTf 2).trans rfl
          have hr := (hBf.block gr HW1.out).trans HR0.out
          have r0 : wr.cell? ⟨gr, 0, none⟩ = some (.string ⟨#[]⟩) := (blk_cell hr 0).trans rfl
          have r1 : wr.cell? ⟨gr, 1, none⟩ = some (.string ⟨#[]⟩) := (blk_cell hr 1).trans rfl
          have r2 : wr.cell? ⟨gr, 2, none⟩ = some (.slice none 0 0) := (blk_cell hr 2).trans rfl
          have t0 := blk_frozen hr 0
          have t1 := blk_frozen hr 1
          have t2 := blk_frozen hr 2
          have HRr := Lib.hid hr
          have HLf := Lib.hid hLf
          have HBf := Lib.hid hBf
          obtain ⟨Af, nf, cf, ef⟩ : ∃ Af nf cf, vf = .slice Af nf cf := by obtain ⟨b, c, rs, e, _⟩ := hLf; exact ⟨_, _, _, e⟩
          subst ef
          clear hTf hLf hBf hr HTr Hown Hus Hst HBo Hcells Hxz Hxl c1
          go_wp2
          have hfin : (((wr.setCell ⟨gr, 0, none⟩ (.string s)).setCell ⟨gr, 1, none⟩ (.string id)).setCell ⟨gr, 2, none⟩ (.slice Af nf cf)).heap[gr]? = some (.cells #[.string s, .string id, .slice Af nf cf] 63 (0, 0)) := by
            rw [blk_set (blk_set (blk_set HRr.out 0 _) 1 _) 2 _]
            rfl
          have hk3 : Kp (fun k => k = gr) wr (((wr.setCell ⟨gr, 0, none⟩ (.string s)).setCell ⟨gr, 1, none⟩ (.string id)).setCell ⟨gr, 2, none⟩ (.slice Af nf cf)) := (((Kp.refl (fun k => k = gr) wr).setCell (p := ⟨gr, 0, none⟩) (.inl rfl) _).setCell (p := ⟨gr, 1, none⟩) (.inl rfl) _).setCell (p := ⟨gr, 2, none⟩) (.inl rfl) _
          generalize ((wr.setCell ⟨gr, 0, none⟩ (.string s)).setCell ⟨gr, 1, none⟩ (.string id)).setCell ⟨gr, 2, none⟩ (.slice Af nf cf) = w4 at *
          have hB4 : Below w.heap.size w w4 := (hk3.below (HB0.out.trans (HBf.out.mono HB0.out.size)) (Nat.le_trans HB0.out.size HBf.out.size) (fun i hi => by rw [hi, HGR.out]; exact Nat.le_refl _))
          have hL4 : Lv w4 (fun k => k < w.heap.size) (.slice Af nf cf) (levels s l) := by
            unfold levels
            rw [HNM.out]
            exact ((HLf.out.apart (S2 := fun k => k < w1.heap.size) (fun k _ h => h)).kept (hk3.mono (fun i hi => by rw [hi]; exact HW1.out))).apart (fun k _ hk => Nat.lt_of_lt_of_le hk HB0.out.size)
          exact bodyPost_ret (v := .tuple #[.agg #[.string s, .string id, .slice Af nf cf], .int .i64 0]) (results_list (rs := [.cell 4 63, .tmp 5]) Try.results46 (by simp) (.cell gr 63 _ (0, 0) _ rfl hfin Try.underlying63 rfl (by rw [size_rtree]; rfl) (.tmp .nil))) rfl ⟨_, by rw [HNM.out], hL4, hB4⟩
end Go.Proofs.Ytilehfdplgciiaa.Hand
/-! The reference's Tree, KeyOf and SignTree, walked. -/
namespace Go.Proofs.Ytilehfdplgciiaa.Hand
open Go.RowKit Go.Proofs.YtilehfdplgciiaaW.PrintWords Go.Proofs.Ytilehfdplgciiaa.PLM Go.Proofs.Ytilehfdplgciiaa.Plain
set_option linter.unusedVariables false
attribute [local go_sem ↓] Go.wp_at_zero Go.wp_at_succ

set_option maxHeartbeats 1000000 in
set_option maxRecDepth 100000 in
theorem rtree_any (w : World) (k : Int) (h : Nat) (h8 : h ≤ 8) :
    Calls Try.prog 44 #[.int .i64 k, .int .i64 h] w fun e w' => ∃ v, e = .returned (.agg #[.string (seed k), .string (nameOf (seed k)), v]) ∧ Lv w' (fun i => i < w.heap.size) v (levels (seed k) h) ∧ Below w.heap.size w w' := by
  have HS := Lib.hid (seed_size k)
  have HR0 := Lib.hid (heap_alloc_new w (.cells #[.string ⟨#[]⟩, .string ⟨#[]⟩, .slice none 0 0] 63))
  have HB0 := Lib.hid (below_alloc (Below.refl w.heap.size w) (.cells #[.string ⟨#[]⟩, .string ⟨#[]⟩, .slice none 0 0] 63))
  go_enter Try.func44, Try.ntmps44
  go_upto_region 1 with fail
  generalize w.alloc (.cells #[.string ⟨#[]⟩, .string ⟨#[]⟩, .slice none 0 0] 63) = w1 at *
  obtain ⟨gr, hgr⟩ : ∃ gr, gr = w.heap.size := ⟨_, rfl⟩
  rw [← hgr] at HR0 ⊢
  have HGR := Lib.hid hgr
  clear hgr
  have HW1 := Lib.hid (blk_lt HR0.out)
  go_upto_region 2 with (first | (go_at_call 28; refine (seed_any k _).mono ?_; rintro e w2 ⟨rfl, hb2⟩) | (go_at_call 46; refine (rgen_any _ (seed k) h HS.out h8).mono ?_; rintro e w3 ⟨v, rfl, hL3, hb3⟩; obtain ⟨Af, nf, cf, ef⟩ : ∃ Af nf cf, v = .slice Af nf cf := by { obtain ⟨b, c, rs, e, _⟩ := hL3; exact ⟨_, _, _, e⟩ }; subst ef))
  have hB3 : Below w1.heap.size w1 w3 := hb2.trans (hb3.mono hb2.size)
  have HB3 := Lib.hid hB3
  have HL3 := Lib.hid (hL3.apart (S2 := fun i => i < w1.heap.size) (fun i _ h => Nat.lt_of_lt_of_le h hb2.size))
  have HT4 := Lib.hid (heap_alloc_new w3 (.cells #[.string (seed k), .string (nameOf (seed k)), .slice Af nf cf] 63))
  have HB4 := Lib.hid (below_alloc hB3 (.cells #[.string (seed k), .string (nameOf (seed k)), .slice Af nf cf] 63))
  have HL4 := Lib.hid (HL3.out.kept (Kp.of_below _ (below_alloc (Below.refl w3.heap.size w3) (.cells #[.string (seed k), .string (nameOf (seed k)), .slice Af nf cf] 63))))
  clear hL3 hb3 hb2 hB3 HB3 HL3
  generalize w3.alloc (.cells #[.string (seed k), .string (nameOf (seed k)), .slice Af nf cf] 63) = w4 at *
  generalize hg4 : w3.heap.size = g4 at *
  clear hg4
  have d0 : w4.cell? ⟨g4, 0, none⟩ = some (.string (seed k)) := (blk_cell HT4.out 0).trans rfl
  have d1 : w4.cell? ⟨g4, 1, none⟩ = some (.string (nameOf (seed k))) := (blk_cell HT4.out 1).trans rfl
  have d2 : w4.cell? ⟨g4, 2, none⟩ = some (.slice Af nf cf) := (blk_cell HT4.out 2).trans rfl
  have hr := (HB4.out.block gr HW1.out).trans HR0.out
  have HRr := Lib.hid hr
  have r0 : w4.cell? ⟨gr, 0, none⟩ = some (.string ⟨#[]⟩) := (blk_cell hr 0).trans rfl
  have r1 : w4.cell? ⟨gr, 1, none⟩ = some (.string ⟨#[]⟩) := (blk_cell hr 1).trans rfl
  have r2 : w4.cell? ⟨gr, 2, none⟩ = some (.slice none 0 0) := (blk_cell hr 2).trans rfl
  have t0 := blk_frozen hr 0
  have t1 := blk_frozen hr 1
  have t2 := blk_frozen hr 2
  clear hr
  go_wp2
  have hfin : (((w4.setCell ⟨gr, 0, none⟩ (.string (seed k))).setCell ⟨gr, 1, none⟩ (.string (nameOf (seed k)))).setCell ⟨gr, 2, none⟩ (.slice Af nf cf)).heap[gr]? = some (.cells #[.string (seed k), .string (nameOf (seed k)), .slice Af nf cf] 63 (0, 0)) := by
    rw [blk_set (blk_set (blk_set HRr.out 0 _) 1 _) 2 _]
    rfl
  have hk3 : Kp (fun k => k = gr) w4 (((w4.setCell ⟨gr, 0, none⟩ (.string (seed k))).setCell ⟨gr, 1, none⟩ (.string (nameOf (seed k)))).setCell ⟨gr, 2, none⟩ (.slice Af nf cf)) := (((Kp.refl (fun k => k = gr) w4).setCell (p := ⟨gr, 0, none⟩) (.inl rfl) _).setCell (p := ⟨gr, 1, none⟩) (.inl rfl) _).setCell (p := ⟨gr, 2, none⟩) (.inl rfl) _
  generalize ((w4.setCell ⟨gr, 0, none⟩ (.string (seed k))).setCell ⟨gr, 1, none⟩ (.string (nameOf (seed k)))).setCell ⟨gr, 2, none⟩ (.slice Af nf cf) = w5 at *
  have hB5 : Below w.heap.size w w5 := (hk3.below (HB0.out.trans (HB4.out.mono HB0.out.size)) (Nat.le_trans HB0.out.size HB4.out.size) (fun i hi => by rw [hi, HGR.out]; exact Nat.le_refl _))
  have hL5 : Lv w5 (fun i => i < w.heap.size) (.slice Af nf cf) (levels (seed k) h) := (HL4.out.kept (hk3.mono (fun i hi => by rw [hi]; exact HW1.out))).apart (fun i _ hk => Nat.lt_of_lt_of_le hk HB0.out.size)
  exact bodyPost_ret (v := .agg #[.string (seed k), .string (nameOf (seed k)), .slice Af nf cf]) (results_cell_row Try.results44 _ _ gr 63 _ (0, 0) _ rfl hfin Try.underlying63 rfl (by rw [size_rtree]; rfl)) rfl ⟨_, rfl, hL5, hB5⟩
set_option maxHeartbeats 1000000 in
set_option maxRecDepth 100000 in
theorem rkey_any (w : World) (s : ByteArray) (h : Nat) (h8 : h ≤ 8) (v : Value) (S : Nat → Prop) (hv : Lv w S v (levels s h)) :
    Calls Try.prog 43 #[.agg #[.string s, .string (nameOf s), v]] w fun e w' => e = .returned (.agg #[.int .i64 h, .string (nameOf s), .string (root s h)]) ∧ Below w.heap.size w w' := by
  obtain ⟨b, c, rfl, hc⟩ := hv.cell
  have hll := levels_len s h
  obtain ⟨u, hu, hst⟩ := hc h (by omega)
  rw [levels_get s h h (by omega)] at hst
  have hl0 := lev_len s (nameOf s) h h (Nat.le_refl _)
  rw [Nat.sub_self, Nat.pow_zero] at hl0
  obtain ⟨b2, c2, rfl, hc2⟩ := hst.cell
  have hr := hc2 0 (by omega)
  have er : (lev s (nameOf s) h h)[0] = root s h := by unfold root at_; rw [List.getD_eq_getElem?_getD, List.getElem?_eq_getElem (by omega)]; rfl
  rw [er] at hr
  rw [hl0] at hu
  rw [hll]
  clear hc hst hc2 er hl0 hv hll
  generalize root s h = r at *
  generalize nameOf s = id at *
  have q0 : (0 : Int) ≤ (h : Int) := by omega
  have q1 : (h : Int) < (h : Int) + 1 := by omega
  have hlb : b < w.heap.size := World.block_lt_of_cell? _ _ hu
  have hlb2 : b2 < w.heap.size := World.block_lt_of_cell? _ _ hr
  have hA := heap_alloc_new w (.cells #[.string s, .string id, .slice (some ⟨b, 0, none⟩) (h + 1) c] 63)
  have hA1 := (Below.heap_alloc (w.alloc (.cells #[.string s, .string id, .slice (some ⟨b, 0, none⟩) (h + 1) c] 63)) (.cells #[.int .i64 0, .string ⟨#[]⟩, .string ⟨#[]⟩] 58) w.heap.size (by simp)).trans hA
  have hK := heap_alloc_new (w.alloc (.cells #[.string s, .string id, .slice (some ⟨b, 0, none⟩) (h + 1) c] 63)) (.cells #[.int .i64 0, .string ⟨#[]⟩, .string ⟨#[]⟩] 58)
  have hzz : (w.alloc (.cells #[.string s, .string id, .slice (some ⟨b, 0, none⟩) (h + 1) c] 63)).heap.size = w.heap.size + 1 := by simp
  rw [hzz] at hK
  have hBB := below_alloc (below_alloc (Below.refl w.heap.size w) (.cells #[.string s, .string id, .slice (some ⟨b, 0, none⟩) (h + 1) c] 63)) (.cells #[.int .i64 0, .string ⟨#[]⟩, .string ⟨#[]⟩] 58)
  have hu1 := (hBB.cell (p := ⟨b, h, none⟩) hlb).trans hu
  have hr1 := (hBB.cell (p := ⟨b2, 0, none⟩) hlb2).trans hr
  have HA1 := Lib.hid hA1
  have HK := Lib.hid hK
  have HBB := Lib.hid hBB
  have HU1 := Lib.hid hu1
  have HR1 := Lib.hid hr1
  clear hA hA1 hK hBB hu1 hr1 hzz hu hr
  go_enter Try.func43, Try.ntmps43
  go_upto_region 1 with fail
  generalize (w.alloc (.cells #[.string s, .string id, .slice (some ⟨b, 0, none⟩) (h + 1) c] 63)).alloc (.cells #[.int .i64 0, .string ⟨#[]⟩, .string ⟨#[]⟩] 58) = w1 at *
  have u1 := HU1.out
  have v1 := HR1.out
  have d1 : w1.cell? ⟨w.heap.size, 1, none⟩ = some (.string id) := (blk_cell HA1.out 1).trans rfl
  have d2 : w1.cell? ⟨w.heap.size, 2, none⟩ = some (.slice (some ⟨b, 0, none⟩) (h + 1) c) := (blk_cell HA1.out 2).trans rfl
  have k0 : w1.cell? ⟨w.heap.size + 1, 0, none⟩ = some (.int .i64 0) := (blk_cell HK.out 0).trans rfl
  have k1 : w1.cell? ⟨w.heap.size + 1, 1, none⟩ = some (.string ⟨#[]⟩) := (blk_cell HK.out 1).trans rfl
  have k2 : w1.cell? ⟨w.heap.size + 1, 2, none⟩ = some (.string ⟨#[]⟩) := (blk_cell HK.out 2).trans rfl
  have l0 := blk_frozen HK.out 0
  have l1 := blk_frozen HK.out 1
  have l2 := blk_frozen HK.out 2
  have hne : w.heap.size ≠ w.heap.size + 1 := by omega
  have hneb : b ≠ w.heap.size + 1 := by omega
  have hneb2 : b2 ≠ w.heap.size + 1 := by omega
  have FA : ∀ (W : World) (a : Addr) (ha : a.block ≠ w.heap.size + 1) (x y z : Value), (((W.setCell ⟨w.heap.size + 1, 0, none⟩ x).setCell ⟨w.heap.size + 1, 1, none⟩ y).setCell ⟨w.heap.size + 1, 2, none⟩ z).drew.cell? a = W.cell? a := fun W a ha x y z => by
    show (((W.setCell ⟨w.heap.size + 1, 0, none⟩ x).setCell ⟨w.heap.size + 1, 1, none⟩ y).setCell ⟨w.heap.size + 1, 2, none⟩ z).cell? a = _
    rw [cell_far ha, cell_far ha, cell_far ha]
  have HFA := Lib.hid FA
  clear FA
  go_upto_region 2 with fail
  go_region_held3 (fun w' => w'.cell? ⟨w.heap.size, 1, none⟩ = some (.string id) ∧ w'.cell? ⟨w.heap.size, 2, none⟩ = some (.slice (some ⟨b, 0, none⟩) (h + 1) c) ∧ w'.cell? ⟨b, h, none⟩ = some (.slice (some ⟨b2, 0, none⟩) 1 c2) ∧ w'.cell? ⟨b2, 0, none⟩ = some (.string r))
    (first | (go_split_ands; refine ⟨?_, ?_, ?_, ?_⟩ <;> assumption) | exact ⟨(HFA.out w1 ⟨w.heap.size, 1, none⟩ hne _ _ _).trans d1, (HFA.out w1 ⟨w.heap.size, 2, none⟩ hne _ _ _).trans d2, (HFA.out w1 ⟨b, h, none⟩ hneb _ _ _).trans u1, (HFA.out w1 ⟨b2, 0, none⟩ hneb2 _ _ _).trans v1⟩ | go_keep) (fail)
  go_wp2
  have hfin : (((w1.setCell ⟨w.heap.size + 1, 0, none⟩ (.int .i64 h)).setCell ⟨w.heap.size + 1, 1, none⟩ (.string id)).setCell ⟨w.heap.size + 1, 2, none⟩ (.string r)).drew.heap[w.heap.size + 1]? = some (.cells #[.int .i64 h, .string id, .string r] 58 (0, 0)) := by
    show (((w1.setCell ⟨w.heap.size + 1, 0, none⟩ (.int .i64 h)).setCell ⟨w.heap.size + 1, 1, none⟩ (.string id)).setCell ⟨w.heap.size + 1, 2, none⟩ (.string r)).heap[w.heap.size + 1]? = _
    rw [blk_set (blk_set (blk_set HK.out 0 _) 1 _) 2 _]
    rfl
  have hB5 : Below w.heap.size w (((w1.setCell ⟨w.heap.size + 1, 0, none⟩ (.int .i64 h)).setCell ⟨w.heap.size + 1, 1, none⟩ (.string id)).setCell ⟨w.heap.size + 1, 2, none⟩ (.string r)).drew := below_drew (((HBB.out.setCell (p := ⟨w.heap.size + 1, 0, none⟩) (Nat.le_succ _) _).setCell (p := ⟨w.heap.size + 1, 1, none⟩) (Nat.le_succ _) _).setCell (p := ⟨w.heap.size + 1, 2, none⟩) (Nat.le_succ _) _)
  exact bodyPost_ret (v := .agg #[.int .i64 h, .string id, .string r]) (results_cell_row Try.results43 _ _ (w.heap.size + 1) 58 _ (0, 0) _ rfl hfin Try.underlying58 rfl (by rw [size_key]; rfl)) rfl ⟨rfl, hB5⟩
end Go.Proofs.Ytilehfdplgciiaa.Hand
/-! The reference's SignTree, walked. -/
namespace Go.Proofs.Ytilehfdplgciiaa.Hand
open Go.RowKit Go.Proofs.YtilehfdplgciiaaW.PrintWords Go.Proofs.Ytilehfdplgciiaa.PLM Go.Proofs.Ytilehfdplgciiaa.Plain
set_option linter.unusedVariables false
attribute [local go_sem ↓] Go.wp_at_zero Go.wp_at_succ

theorem rsign_once (id s : ByteArray) (i : Nat) (d : ByteArray) (h1 : id.size = 16) (h2 : s.size = 32) (h3 : i < 256) (h4 : d.size = 16) (W : World) :
    Calls Try.prog 26 #[.string id, .string s, .int .i64 i, .string d] W fun e w' => e = .returned (.tuple #[.string (signR id s i d).1, .int .i64 0]) ∧ Below W.heap.size W w' :=
  certpathref11_SignOnce.calls 60 id s i d _ _ W (by rw [ref_sign_f id s i d 60 (by decide), ← (signR_ok id s i d h1 h2 h3 h4).1])
theorem rdig_any (id rt : ByteArray) (leaf : Int) (m : ByteArray) (h1 : id.size ≤ 1000) (h2 : rt.size ≤ 1000) (h3 : m.size ≤ 1000) (A : Option Addr) (c : Nat) (hc : 5 ≤ c) (W : World) (hR : Kd.C Kd.string W A 5 [⟨#[77]⟩, id, rt, b4 leaf, m]) :
    Calls Try.prog 65 #[.slice A 5 c] W fun e w' => e = .returned (.string (mdig id rt leaf m)) ∧ Below W.heap.size W w' :=
  certpathref01_Short.calls A c [⟨#[77]⟩, id, rt, b4 leaf, m] _ W hR hc (ref_short _ (by simp only [cat_cons, cat_nil, List.length_append, bytesOf_length, b4_size, List.length_nil]; show 1 + _ ≤ _; omega))
set_option maxHeartbeats 4000000 in
set_option maxRecDepth 100000 in
theorem rsign_in (w : World) (s : ByteArray) (h lf : Nat) (m : ByteArray) (v : Value) (S : Nat → Prop) (hv : Lv w S v (levels s h)) (hs : s.size = 32) (h8 : h ≤ 8) (hl : lf < 2 ^ h) (hm : m.size ≤ 1000) :
    Calls Try.prog 50 #[.agg #[.string s, .string (nameOf s), v], .int .i64 lf, .string m] w fun e w' => e = .returned (.tuple #[.string (sigR s h lf m), .int .i64 0]) ∧ Below w.heap.size w w' := by
  have hp8 := pow_le8 h8
  have hlf : lf < 256 := by omega
  have HL := Lib.hid hl
  have HS := Lib.hid hs
  have HIZ := Lib.hid (nameOf_size s)
  have HRZ := Lib.hid (root_size s h h8 hs)
  have HDZ := Lib.hid (mdig_size (nameOf s) (root s h) lf m)
  have hll := levels_len s h
  obtain ⟨b, cap, e, hc⟩ := hv.cell
  rw [hll] at e
  subst e
  have HV := Lib.hid hv
  -- the first row's length
  obtain ⟨u0, hu0, hst0⟩ := hc 0 (by omega)
  rw [levels_get s h 0 (by omega)] at hst0
  have hl0 := lev_len s (nameOf s) h 0 (Nat.zero_le _)
  rw [Nat.sub_zero] at hl0
  obtain ⟨b0, cap0, e0, _⟩ := hst0.cell
  subst e0
  rw [hl0] at hu0
  obtain ⟨N, hN⟩ : ∃ N, N = 2 ^ h := ⟨_, rfl⟩
  rw [← hN] at hu0
  have hlN : (lf : Int) < (N : Int) := by rw [hN]; omega
  have HLL := Lib.hid hll
  have hblk := heap_alloc_new w (.cells #[.string s, .string (nameOf s), .slice (some ⟨b, 0, none⟩) (h + 1) cap] 63)
  have hB0 := below_alloc (Below.refl w.heap.size w) (.cells #[.string s, .string (nameOf s), .slice (some ⟨b, 0, none⟩) (h + 1) cap] 63)
  have HBK := Lib.hid hblk
  have HB0 := Lib.hid hB0
  have HU0 := Lib.hid ((hB0.cell (p := ⟨b, 0, none⟩) (World.block_lt_of_cell? _ _ hu0)).trans hu0)
  have HV1 := Lib.hid (HV.out.kept (Kp.of_below _ hB0))
  have HC := Lib.hid (fun i hi => (hc i hi))
  clear hl hs hv hst0 hl0 hu0 hll hN hp8 hc hblk hB0
  go_enter Try.func50, Try.ntmps50
  go_upto_region 1 with fail
  generalize w.alloc (.cells #[.string s, .string (nameOf s), .slice (some ⟨b, 0, none⟩) (h + 1) cap] 63) = w1 at *
  have c2 : w1.cell? ⟨w.heap.size, 2, none⟩ = some (.slice (some ⟨b, 0, none⟩) (h + 1) cap) := (blk_cell HBK.out 2).trans rfl
  have c1 : w1.cell? ⟨w.heap.size, 1, none⟩ = some (.string (nameOf s)) := (blk_cell HBK.out 1).trans rfl
  have c0 : w1.cell? ⟨w.heap.size, 0, none⟩ = some (.string s) := (blk_cell HBK.out 0).trans rfl
  have u0 := HU0.out
  go_upto_region 4 with (go_at_call 43; refine (rkey_any _ s h h8 (.slice (some ⟨b, 0, none⟩) (h + 1) cap) _ HV1.out).mono ?_; rintro e w2 ⟨rfl, hb2⟩)
  have hk2 := heap_alloc_new w2 (.cells #[.int .i64 h, .string (nameOf s), .string (root s h)] 58)
  have hB3 := ((HB0.out.trans (hb2.mono HB0.out.size))).alloc (Nat.le_trans HB0.out.size hb2.size) (.cells #[.int .i64 h, .string (nameOf s), .string (root s h)] 58)
  have hb3 : Below w1.heap.size w1 (w2.alloc (.cells #[.int .i64 h, .string (nameOf s), .string (root s h)] 58)) := below_alloc hb2 _
  have HK := Lib.hid hk2
  have HB3 := Lib.hid hB3
  have d0 := (hb3.cell (p := ⟨w.heap.size, 0, none⟩) (World.block_lt_of_cell? _ _ c0)).trans c0
  have d1 := (hb3.cell (p := ⟨w.heap.size, 1, none⟩) (World.block_lt_of_cell? _ _ c1)).trans c1
  have d2 := (hb3.cell (p := ⟨w.heap.size, 2, none⟩) (World.block_lt_of_cell? _ _ c2)).trans c2
  have HV3 := Lib.hid (HV1.out.kept (Kp.of_below _ hb3))
  clear hk2 hB3 hb3 hb2 c0 c1 c2 u0 HV1 HU0 HC HV HB0 HBK
  generalize w2.alloc (.cells #[.int .i64 h, .string (nameOf s), .string (root s h)] 58) = w3 at *
  generalize hgk : w2.heap.size = gk at *
  clear hgk
  have k0 : w3.cell? ⟨gk, 0, none⟩ = some (.int .i64 h) := (blk_cell HK.out 0).trans rfl
  have k1 : w3.cell? ⟨gk, 1, none⟩ = some (.string (nameOf s)) := (blk_cell HK.out 1).trans rfl
  have k2 : w3.cell? ⟨gk, 2, none⟩ = some (.string (root s h)) := (blk_cell HK.out 2).trans rfl
  go_region_held3 (fun w' => w'.cell? ⟨w.heap.size, 0, none⟩ = some (.string s) ∧ w'.cell? ⟨w.heap.size, 1, none⟩ = some (.string (nameOf s)) ∧ w'.cell? ⟨gk, 1, none⟩ = some (.string (nameOf s)) ∧ w'.cell? ⟨gk, 2, none⟩ = some (.string (root s h))) (go_keep) ((first
    | (go_at_call 70; refine (rb4_any lf _).mono ?_; rintro e w4 ⟨rfl, hb4⟩; have e0 := (hb4.cell (p := ⟨w.heap.size, 0, none⟩) (World.block_lt_of_cell? _ _ d0)).trans d0; have e1 := (hb4.cell (p := ⟨w.heap.size, 1, none⟩) (World.block_lt_of_cell? _ _ d1)).trans d1; have e2 := (hb4.cell (p := ⟨gk, 1, none⟩) (World.block_lt_of_cell? _ _ k1)).trans k1; have e3 := (hb4.cell (p := ⟨gk, 2, none⟩) (World.block_lt_of_cell? _ _ k2)).trans k2)
    | (go_at_call 65; refine (rdig_any (nameOf s) (root s h) lf m (by rw [HIZ.out]; decide) (by rw [HRZ.out]; decide) hm _ 5 (Nat.le_refl _) _ (strs_row (xs := [⟨#[77]⟩, nameOf s, root s h, b4 lf, m]) (heap_alloc_new w4 _) (by simp [maxLen]))).mono ?_; rintro e w5 ⟨rfl, hb5⟩; have hb45 : Below w4.heap.size w4 w5 := (below_alloc (Below.refl w4.heap.size w4) _).trans (hb5.mono (by simp)); have f0 := (hb45.cell (p := ⟨w.heap.size, 0, none⟩) (World.block_lt_of_cell? _ _ e0)).trans e0; have f1 := (hb45.cell (p := ⟨w.heap.size, 1, none⟩) (World.block_lt_of_cell? _ _ e1)).trans e1; have f2 := (hb45.cell (p := ⟨gk, 1, none⟩) (World.block_lt_of_cell? _ _ e2)).trans e2; have f3 := (hb45.cell (p := ⟨gk, 2, none⟩) (World.block_lt_of_cell? _ _ e3)).trans e3)
    | (go_at_call 26; refine (rsign_once (nameOf s) s lf (mdig (nameOf s) (root s h) lf m) HIZ.out HS.out hlf HDZ.out _).mono ?_; rintro e w6 ⟨rfl, hb6⟩; have g0 := (hb6.cell (p := ⟨w.heap.size, 0, none⟩) (World.block_lt_of_cell? _ _ f0)).trans f0; have g1 := (hb6.cell (p := ⟨w.heap.size, 1, none⟩) (World.block_lt_of_cell? _ _ f1)).trans f1; have g2 := (hb6.cell (p := ⟨gk, 1, none⟩) (World.block_lt_of_cell? _ _ f2)).trans f2; have g3 := (hb6.cell (p := ⟨gk, 2, none⟩) (World.block_lt_of_cell? _ _ f3)).trans f3)))
  have hz35 : w3.heap.size ≤ w5.heap.size := Nat.le_trans (show w3.heap.size ≤ w4.heap.size from hb4.size) hb45.size
  have hb36 : Below w3.heap.size w3 w6 := (((below_drew (Below.refl w3.heap.size w3)).trans hb4).trans (hb45.mono (show w3.heap.size ≤ w4.heap.size from hb4.size))).trans (hb6.mono hz35)
  have HB6 := Lib.hid (HB3.out.trans (hb36.mono HB3.out.size))
  have HV6 := Lib.hid (HV3.out.kept (Kp.of_below _ hb36))
  have HK6 := Lib.hid ((hb36.block gk (blk_lt HK.out)).trans HK.out)
  have HD2 := Lib.hid ((hb36.cell (p := ⟨w.heap.size, 2, none⟩) (World.block_lt_of_cell? _ _ d2)).trans d2)
  clear hb36 hb4 hb45 hb5 hb6 d0 d1 d2 e0 e1 e2 e3 f0 f1 f2 f3 g0 g1 g2 g3 k0 k1 k2 HK HV3 HB3 hz35
  have hsg := (signR_ok (nameOf s) s lf (mdig (nameOf s) (root s h) lf m) HIZ.out HS.out hlf HDZ.out).2
  have h0 : sigL s h lf m 0 = b4 lf ++ (signR (nameOf s) s lf (mdig (nameOf s) (root s h) lf m)).1 := rfl
  have H0 := Lib.hid h0
  have HSG := Lib.hid hsg
  clear h0 hsg
  have hb4z := b4_size lf
  have hcat : (b4 lf).size + (signR (nameOf s) s lf (mdig (nameOf s) (root s h) lf m)).1.size ≤ 9223372036854775807 := by rw [hb4z, HSG.out]; decide
  clear hb4z
  generalize (signR (nameOf s) s lf (mdig (nameOf s) (root s h) lf m)).1 = sg at *
  generalize hbb : b4 (lf : Int) = bb at *
  have HBB := Lib.hid hbb
  clear hbb
  go_upto_block 0 with (go_at_call 70; refine (rb4_any lf _).mono ?_; rintro e w7 ⟨rfl, hb7⟩; rw [HBB.out])
  have hV7 := HV6.out.kept (Kp.of_below _ hb7)
  obtain ⟨b', cap', e', hc⟩ := hV7.cell
  injection e' with e1 e2 e3
  injection e1 with e1
  injection e1 with e1
  subst e1 e3
  have c2 := (hb7.cell (p := ⟨w.heap.size, 2, none⟩) (World.block_lt_of_cell? _ _ HD2.out)).trans HD2.out
  have hk7 := (hb7.block gk (blk_lt HK6.out)).trans HK6.out
  have k0 : w7.cell? ⟨gk, 0, none⟩ = some (.int .i64 h) := (blk_cell hk7 0).trans rfl
  have HB7 := Lib.hid (HB6.out.trans (hb7.mono HB6.out.size))
  have HC := Lib.hid hc
  have HIN := Lib.hid (show ∀ l, l ≤ h → (sigL s h lf m l).size = 564 + 16 * l from sigL_size s h lf m h8 HS.out HL.out)
  clear hV7 hk7 hb7 HV6 HK6 HD2 HB6 hcat hc e2 hlN
  go_wp2
  go_loop [9, 11, 12] (fun s9 s11 s12 => ∃ l : Nat, l ≤ h ∧ s11 = .int .i64 l ∧ s12 = .int .i64 ((lf / 2 ^ l : Nat) : Int) ∧ s9 = .string (sigL s h lf m l)) (fun _ s11 _ => (h - intOf s11).toNat)
  case atStart => exact ⟨0, Nat.zero_le _, rfl, by rw [Nat.pow_zero, Nat.div_one], by rw [H0.out]⟩
  case round =>
    obtain ⟨l, hl, rfl, rfl, rfl⟩ := hrel
    by_cases hlt : l < h
    · have q0 : (l : Int) < h := by omega
      have q1 : (l : Int) < h + 1 := by omega
      obtain ⟨u, hu, hst⟩ := HC.out l (by rw [HLL.out]; omega)
      rw [levels_get s h l (by rw [HLL.out]; omega)] at hst
      obtain ⟨b2, cap2, e2, hc2⟩ := hst.cell
      subst e2
      have hi8 : lf / 2 ^ l < 2 ^ (h - l) := by
        rw [Nat.div_lt_iff_lt_mul (Nat.pow_pos (by decide)), ← Nat.pow_add, show h - l + l = h by omega]
        exact HL.out
      have hn8 : nb (lf / 2 ^ l) < 2 ^ (h - l) := by
        rw [show h - l = (h - l - 1) + 1 by omega] at hi8 ⊢
        exact nb_lt _ _ hi8
      have hi256 : lf / 2 ^ l < 256 := Nat.lt_of_le_of_lt (Nat.div_le_self _ _) hlf
      have hxo := xor_one ⟨lf / 2 ^ l, hi256⟩
      have hlen := lev_len s (nameOf s) h l hl
      rw [← hlen] at hn8
      have hcn := hc2 (nb (lf / 2 ^ l)) hn8
      have ea : (lev s (nameOf s) h l)[nb (lf / 2 ^ l)] = at_ (lev s (nameOf s) h l) (nb (lf / 2 ^ l)) := by unfold at_; rw [List.getD_eq_getElem?_getD, List.getElem?_eq_getElem hn8]; rfl
      rw [ea] at hcn
      have hsz : (sigL s h lf m (l + 1)).size = (sigL s h lf m l).size + (at_ (lev s (nameOf s) h l) (nb (lf / 2 ^ l))).size := by
        show (sigL s h lf m l ++ _).size = _
        rw [ByteArray.size_append]
      have hnx : sigL s h lf m (l + 1) = sigL s h lf m l ++ at_ (lev s (nameOf s) h l) (nb (lf / 2 ^ l)) := rfl
      have hdv : lf / 2 ^ (l + 1) = lf / 2 ^ l / 2 := by rw [Nat.pow_succ, Nat.div_div_eq_div_mul]
      rw [HIN.out (l + 1) (by omega)] at hsz
      have hcat : (sigL s h lf m l).size + (at_ (lev s (nameOf s) h l) (nb (lf / 2 ^ l))).size ≤ 9223372036854775807 := by omega
      have HNX := Lib.hid hnx
      have HDV := Lib.hid hdv
      clear ea hsz hst hc2 hlen hnx hdv hi8
      generalize (lev s (nameOf s) h l).length = len at *
      generalize at_ (lev s (nameOf s) h l) (nb (lf / 2 ^ l)) = x at *
      generalize sigL s h lf m l = y at *
      have hxo2 : Go.bits .xor .i64 ((lf / 2 ^ l : Nat) : Int) 1 = ((nb (lf / 2 ^ l) : Nat) : Int) := hxo
      clear hxo
      generalize nb (lf / 2 ^ l) = j at *
      generalize lf / 2 ^ l = i at *
      have p0 : (0 : Int) ≤ (j : Int) := by omega
      have p1 : (j : Int) < (len : Int) := by omega
      have p2 : (i : Int) < 256 := by omega
      go_wp2
      go_round
      case rel => exact ⟨l + 1, by omega, by go_num, by rw [HDV.out]; go_num, by rw [HNX.out]⟩
      case measure => simp [intOf]; omega
    · obtain rfl : l = h := by omega
      go_wp2
      go_ret2
      exact ⟨rfl, HB7.out⟩
end Go.Proofs.Ytilehfdplgciiaa.Hand
