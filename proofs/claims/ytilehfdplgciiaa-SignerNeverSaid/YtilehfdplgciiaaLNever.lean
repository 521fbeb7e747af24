import Derived.Test.YtilehfdplgciiaaAw13
import Derived.Test.YtilehfdplgciiaaSgB
import Derived.Test.YtilehfdplgciiaaDeck
/-! certpathlaw13.SignerNever, walked. -/
namespace Go.Proofs.Ytilehfdplgciiaa.Hand
open Go.Proofs.YtilehfdplgciiaaW
open Go.RowKit Go.Proofs.YtilehfdplgciiaaW.PrintWords Go.Proofs.Ytilehfdplgciiaa.PLM Go.Proofs.Ytilehfdplgciiaa.Plain
set_option linter.unusedVariables false
set_option linter.unusedSimpArgs false
attribute [local go_sem ↓] Go.wp_at_zero Go.wp_at_succ

theorem info_bool : (Try.prog.info? 4).map (fun i => (i.zero, i.size, i.bytes)) = some (some (.bool false), 1, 1) := by kernel_rfl
/-- The row of used leaves. -/
def usedC (N n : Nat) : Array Value := ((List.range N).map fun i => Value.bool (decide (i < n))).toArray
theorem usedC_at (N n i : Nat) (h : i < N) : (usedC N n)[i]? = some (.bool (decide (i < n))) := by
  unfold usedC
  simp [h]
theorem usedC_set (N n : Nat) : (usedC N n).setIfInBounds n (.bool true) = usedC N (n + 1) := by
  apply Array.ext
  · simp [usedC]
  · intro i h1 h2
    have hi : i < N := by simpa [usedC] using h2
    rw [Array.getElem_setIfInBounds (by simpa [usedC] using hi)]
    by_cases h : n = i
    · rw [if_pos h]
      subst h
      simp [usedC]
    · rw [if_neg h]
      simp [usedC]
      omega
theorem made_used (N : Nat) : madeCells #[Value.bool false] N = usedC N 0 := by
  apply Array.ext
  · simp [madeCells, usedC]
  · intro i h1 h2
    simp [madeCells, usedC, Nat.mod_one]
theorem made_bools (W : World) (n : Nat) (hn : n ≤ 1000) : (Instr.makeSlice 96 (.int .i64 n) (.int .i64 n)).run Try.prog W = .ok (.slice (some ⟨W.heap.size, 0, none⟩) n n) (W.alloc (.cells (usedC n 0) 4)) := by
  have hi := info_bool
  cases hq : Try.prog.info? 4 with
  | none => rw [hq] at hi; exact absurd hi (by simp)
  | some i =>
    rw [hq] at hi
    simp only [Option.map_some, Option.some.injEq, Prod.mk.injEq] at hi
    have := run_make (P := Try.prog) W 96 4 i (.bool false) Try.underlying96 hq hi.1 .i64 .i64 n n (by omega) (by omega) (by rw [hi.2.2]; omega) (by omega)
    rw [hi.2.1, Int.toNat_natCast, Nat.mul_one] at this
    rw [← made_used]
    exact this
/-- The signer, the deck and the row in memory. -/
def NS (w : World) (gs gt gd gu : Nat) (s : ByteArray) (h n N : Nat) (l : List Int) (W : World) : Prop :=
  SS W gs gt s h n ∧ Dk w W gd l ∧ W.heap[gu]? = some (.cells (usedC N n) 4 (0, 0)) ∧ w.heap.size ≤ gs ∧ w.heap.size ≤ gt ∧ w.heap.size ≤ gu
theorem NS.below {w : World} {gs gt gd gu : Nat} {s : ByteArray} {h n N : Nat} {l : List Int} {W W2 : World} (j : NS w gs gt gd gu s h n N l W) (hb : Below W.heap.size W W2) : NS w gs gt gd gu s h n N l W2 :=
  ⟨j.1.below hb, j.2.1.below hb, (hb.block _ (blk_lt j.2.2.1)).trans j.2.2.1, j.2.2.2⟩
/-- A copy of the signer changes. -/
theorem NS.copy {w : World} {gs gt gd gu g : Nat} {s : ByteArray} {h n N n2 : Nat} {l : List Int} {W W2 : World} (j : NS w gs gt gd gu s h n N l W) (k : SS W g gt s h n2) (hk : Kp (fun i => i = g) W W2) (hg : w.heap.size ≤ g) (hne : gs ≠ g) : NS w gs gt gd gu s h n N l W2 := by
  obtain ⟨cs, hc⟩ := j.2.1.blk
  have hkg := k.1
  unfold Sg at hkg
  exact ⟨j.1.other hk hne (fun i hi => ⟨_, _, _, (congrArg (fun j => W.heap[j]?) hi).trans hkg, by decide, by decide, by decide⟩), j.2.1.kept hk (blk_ne hc hkg (by decide)) (fun i hi => by rw [hi]; exact hg), (hk.block _ (blk_lt j.2.2.1) (blk_ne j.2.2.1 hkg (by decide))).trans j.2.2.1, j.2.2.2⟩
theorem NS.sign {w : World} {gs gt gd gu : Nat} {s : ByteArray} {h n N : Nat} {l : List Int} {W W2 : World} (j : NS w gs gt gd gu s h n N l W) (k : SS W2 gs gt s h (n + 1)) (hk : Kp (fun i => i = gs ∨ i = gt) W W2) : SS W2 gs gt s h (n + 1) ∧ Dk w W2 gd l ∧ W2.heap[gu]? = some (.cells (usedC N n) 4 (0, 0)) ∧ w.heap.size ≤ gs ∧ w.heap.size ≤ gt ∧ w.heap.size ≤ gu := by
  obtain ⟨cs, hc⟩ := j.2.1.blk
  have hg1 := j.1.1
  unfold Sg at hg1
  obtain ⟨v, hg2, _⟩ := j.1.2.1
  unfold Tr at hg2
  refine ⟨k, j.2.1.kept hk (fun h => h.elim (blk_ne hc hg1 (by decide)) (blk_ne hc hg2 (by decide))) (fun i hi => hi.elim (fun h => by rw [h]; exact j.2.2.2.1) (fun h => by rw [h]; exact j.2.2.2.2.1)), (hk.block _ (blk_lt j.2.2.1) (fun h => h.elim (blk_ne j.2.2.1 hg1 (by decide)) (blk_ne j.2.2.1 hg2 (by decide)))).trans j.2.2.1, j.2.2.2⟩
theorem NS.mark {w : World} {gs gt gd gu : Nat} {s : ByteArray} {h n m N : Nat} {l : List Int} {W : World} (k : SS W gs gt s h m) (d : Dk w W gd l) (u : W.heap[gu]? = some (.cells (usedC N n) 4 (0, 0))) (hgs : w.heap.size ≤ gs) (hgt : w.heap.size ≤ gt) (hgu : w.heap.size ≤ gu) : SS (W.setCell ⟨gu, n, none⟩ (.bool true)) gs gt s h m ∧ Dk w (W.setCell ⟨gu, n, none⟩ (.bool true)) gd l ∧ (W.setCell ⟨gu, n, none⟩ (.bool true)).heap[gu]? = some (.cells (usedC N (n + 1)) 4 (0, 0)) := by
  obtain ⟨cs, hc⟩ := d.blk
  have hg1 := k.1
  unfold Sg at hg1
  have hk : Kp (fun i => i = gu) W (W.setCell ⟨gu, n, none⟩ (.bool true)) := (Kp.refl (fun i => i = gu) W).setCell (p := ⟨gu, n, none⟩) (.inl rfl) _
  refine ⟨k.other hk (blk_ne hg1 u (by decide)) (fun i hi => ⟨_, _, _, (congrArg (fun j => W.heap[j]?) hi).trans u, by decide, by decide, by decide⟩), d.kept hk (blk_ne hc u (by decide)) (fun i hi => by rw [hi]; exact hgu), ?_⟩
  rw [← usedC_set]
  exact blk_set u n _
theorem NS.deck {w : World} {gs gt gd gu : Nat} {s : ByteArray} {h n N : Nat} {l : List Int} {W W2 : World} (j : NS w gs gt gd gu s h n N l W) (d : Dk w W2 gd l) (hk : Kp (fun i => i = gd) W W2) : NS w gs gt gd gu s h n N l W2 := by
  obtain ⟨cs, hc⟩ := j.2.1.blk
  have hg1 := j.1.1
  unfold Sg at hg1
  exact ⟨j.1.other hk (blk_ne hg1 hc (by decide)) (fun i hi => ⟨_, _, _, (congrArg (fun j => W.heap[j]?) hi).trans hc, by decide, by decide, by decide⟩), d, (hk.block _ (blk_lt j.2.2.1) (blk_ne j.2.2.1 hc (by decide))).trans j.2.2.1, j.2.2.2⟩
set_option maxHeartbeats 4000000 in
set_option maxRecDepth 100000 in
theorem signerNever_walk (w : World) (k : Int) (hk0 : 0 ≤ k) (hk1 : k ≤ 255) (ht : Int) (hh0 : 0 ≤ ht) (hh1 : ht ≤ 255) (A : Option Addr) (c : Nat) (l : List Int) (hlz : l.length * 8 ≤ 140737488351232) (hlc : l.length ≤ c) (hC : Kd.C (Kd.int .i64) w A l.length l) :
    Calls Try.prog 18 #[.int .u8 k, .int .u8 ht, .slice A l.length c] w fun e w' => e = .returned (.bool true) ∧ Below w.heap.size w w' := by
  have HC := Lib.hid hC
  have HLZ := Lib.hid hlz
  have HLC := Lib.hid hlc
  clear hC hlz hlc
  obtain ⟨h, hh⟩ : ∃ h : Nat, ht % 3 = (h : Int) := ⟨(ht % 3).toNat, by omega⟩
  have h8 : h ≤ 8 := by omega
  have h2 : h ≤ 2 := by omega
  have hN4 : 2 ^ h ≤ 4 := Nat.pow_le_pow_right (by decide) h2
  have hp1 : 1 ≤ 2 ^ h := Nat.pow_pos (by decide)
  have hwk : IntKind.i64.wrap k = k := IntWalk.i64_in _ (by omega)
  have hpw : wrap64 ((2 : Int) ^ h) = ((2 ^ h : Nat) : Int) := pow_w h h8
  have hpw2 : IntKind.i64.wrap ((2 : Int) ^ h) = ((2 ^ h : Nat) : Int) := by rw [← hpw]; exact (Go.Proofs.YtilehfdplgciiaaW.PrintLast.i64_w _)
  have HSD := Lib.hid (fun W => seed_any k W)
  have HNEW := Lib.hid (fun W => new_any W (seed k) h (seed_size k) h8)
  have HFK := Lib.hid (fun W gs gt n (t : SS W gs gt (seed k) h n) => fork_any W gs gt (seed k) h n t)
  have hska0 : ∀ (n : Nat) (hn : n < 2 ^ h) (W : World) (gs gt : Nat), SS W gs gt (seed k) h n → Calls Try.prog 62 #[.pointer (some ⟨gs, 0, none⟩), .int .i64 1] W fun e w' => e = .returned (.int .i64 1) ∧ SS w' gs gt (seed k) h (n + 1) ∧ Kp (fun i => i = gs) W w' := fun n hn W gs gt t => by
    have := skip_any W gs gt (seed k) h n 1 t (by omega)
    rw [show min 1 (2 ^ h - n) = 1 by omega] at this
    exact this
  have HSKA := Lib.hid hska0
  have hskb0 : ∀ (W : World) (gs gt : Nat), SS W gs gt (seed k) h (2 ^ h) → Calls Try.prog 62 #[.pointer (some ⟨gs, 0, none⟩), .int .i64 1] W fun e w' => e = .returned (.int .i64 0) ∧ SS w' gs gt (seed k) h (2 ^ h) ∧ Kp (fun i => i = gs) W w' := fun W gs gt t => by
    have := skip_any W gs gt (seed k) h (2 ^ h) 1 t (by omega)
    rw [show min 1 (2 ^ h - 2 ^ h) = 0 by omega] at this
    exact this
  have HSKB := Lib.hid hskb0
  clear hska0 hskb0
  have HSV := Lib.hid (fun (n : Nat) (hn : n ≤ 2 ^ h) W gs gt (t : SS W gs gt (seed k) h n) => save_any W gs gt (seed k) h n t (by omega))
  have HSI := Lib.hid (fun (n : Nat) (hn : n < 2 ^ h) W gs gt (t : SS W gs gt (seed k) h n) => sgn_in W gs gt (seed k) h n ⟨#[109]⟩ t hn (by decide))
  have HSO := Lib.hid (fun W gs gt (t : SS W gs gt (seed k) h (2 ^ h)) => sgn_out W gs gt (seed k) h ⟨#[109]⟩ t)
  have hlo0 : ∀ (W : World) (gs gt : Nat), SS W gs gt (seed k) h (2 ^ h) → Calls Try.prog 59 #[.pointer (some ⟨gs, 0, none⟩)] W fun e w' => e = .returned (.int .i64 0) ∧ Below W.heap.size W w' := fun W gs gt t => by
    have := left_any W gs gt (seed k) h (2 ^ h) t (Nat.le_refl _)
    rw [Nat.sub_self] at this
    exact this
  have HLO := Lib.hid hlo0
  clear hlo0
  have HLF := Lib.hid (fun (n : Nat) (hn : n < 2 ^ h) W => by
    have hz := sigL_size (seed k) h n ⟨#[109]⟩ h8 (seed_size k) hn h (Nat.le_refl _)
    have := leaf_long (sigR (seed k) h n ⟨#[109]⟩) (by show 4 ≤ (sigL (seed k) h n ⟨#[109]⟩ h).size; omega) (by show (sigL (seed k) h n ⟨#[109]⟩ h).size ≤ 140737488355328; omega) W
    rw [leaf_own (seed k) h n ⟨#[109]⟩ (by omega)] at this
    exact this)
  have HLD := Lib.hid (fun (n : Nat) (hn : n ≤ 2 ^ h) W => load_save W (seed k) h n (seed_size k) h8 hn (by omega))
  have HSIG := Lib.hid (fun (n : Nat) => (⟨sigR (seed k) h n ⟨#[109]⟩, rfl⟩ : ∃ y, y = sigR (seed k) h n ⟨#[109]⟩))
  generalize seed k = s at *
  have HMK := Lib.hid (fun W => made_bools W (2 ^ h) (by omega))
  generalize 2 ^ h = N at *
  have HP1 := Lib.hid hp1
  clear hp1 h2
  go_enter Try.func18, Try.ntmps18
  go_upto_region 6 with (first
    | (go_at_call 28; refine (HSD.out _).mono ?_; rintro e w2 ⟨rfl, hb2⟩)
    | (go_at_call 56; refine (HNEW.out _).mono ?_; rintro e w3 ⟨gs, gt, rfl, hS3, hg3, ht3, hb3⟩; have HS3 := Lib.hid hS3; have HG3 := Lib.hid (And.intro (Nat.le_trans hb2.size hg3) (Nat.le_trans hb2.size ht3)); have HB3 := Lib.hid (hb2.trans (hb3.mono hb2.size)); clear hS3 hg3 ht3 hb3 hb2)
    | (go_at_call 25; refine (deck_new w _ A c l HLZ.out HLC.out HC.out HB3.out).mono ?_; rintro e w4 ⟨gd, rfl, hd4, hb4⟩; have HD4 := Lib.hid hd4; have HS4 := Lib.hid (HS3.out.below hb4); clear hd4 hb4))
  have hmk := HMK.out w4
  have hJ : NS w gs gt gd w4.heap.size s h 0 N l (w4.alloc (.cells (usedC N 0) 4)) :=
    ⟨HS4.out.below (below_alloc (Below.refl _ _) _), HD4.out.below (below_alloc (Below.refl _ _) _), heap_alloc_new w4 _, HG3.out.1, HG3.out.2, HD4.out.bel.size⟩
  have HJ := Lib.hid hJ
  clear hJ
  go_upto_region 7 with fail
  clear hmk HS3 HB3 HD4 HS4 HG3
  generalize w4.alloc (.cells (usedC N 0) 4) = w5 at *
  generalize w4.heap.size = gu at *
  go_wp2
  go_loopw [8, 12, 13, 14, 15, 16, 17, 18, 19, 20] (fun s8 s12 _ _ _ _ _ _ _ _ wr => ∃ gs gt n i : Nat, n ≤ N ∧ i ≤ 6 ∧ s8 = .pointer (some ⟨gs, 0, none⟩) ∧ s12 = .int .i64 i ∧ NS w gs gt gd gu s h n N l wr) (fun _ s12 _ _ _ _ _ _ _ _ _ => (6 - intOf s12).toNat)
  case atStart => exact ⟨gs, gt, 0, 0, Nat.zero_le _, Nat.zero_le _, rfl, rfl, HJ.out⟩
  case round =>
    clear HJ
    obtain ⟨gs1, gt1, n, i, hnN, hi6, rfl, rfl, hJ⟩ := hrel
    have HJ := Lib.hid hJ
    clear hJ
    by_cases hi : i < 6
    · have qi : (i : Int) < 6 := by omega
      by_cases hn : n < N
      · have HN := Lib.hid hn
        obtain ⟨sv, hsv⟩ : ∃ y, y = saveS s h (n + 1) := ⟨_, rfl⟩
        obtain ⟨sg, hsg⟩ : ∃ y, y = sigR s h n ⟨#[109]⟩ := ⟨_, rfl⟩
        have hsv1 := HSV.out (n + 1) hn
        have hld1 := HLD.out (n + 1) hn
        have hsi1 := HSI.out n hn
        have hlf1 := HLF.out n hn
        have hska := HSKA.out n hn
        rw [← hsv] at hsv1 hld1
        rw [← hsg] at hsi1 hlf1
        have SV := Lib.hid hsv1
        have LD := Lib.hid hld1
        have SI := Lib.hid hsi1
        have LF := Lib.hid hlf1
        have SK := Lib.hid hska
        have qn : (n : Int) < (N : Int) := by omega
        clear hsv hsg hsv1 hld1 hsi1 hlf1 hska hnN hn
        go_upto_region 19 with (first
          | (go_at_call 63; refine (HFK.out _ gs1 gt1 n HJ.out.1).mono ?_; rintro e w6 ⟨gx, rfl, hx6, hgx, hb6⟩; have HX6 := Lib.hid hx6; have HNE := Lib.hid (show gs1 ≠ gx from fun e => by have := HJ.out.1.lt; omega); have HGX := Lib.hid (Nat.le_trans HJ.out.2.1.bel.size hgx); have HJ6 := Lib.hid (HJ.out.below hb6); clear hx6 hgx hb6)
          | (go_at_call 62; refine (SK.out _ gx gt1 HX6.out).mono ?_; rintro e w7 ⟨rfl, hx7, hk7⟩; have HX7 := Lib.hid hx7; have HJ7 := Lib.hid (HJ6.out.copy HX6.out hk7 HGX.out HNE.out); clear hx7 hk7)
          | (go_at_call 39; refine (SV.out _ gx gt1 HX7.out).mono ?_; rintro e w8 ⟨rfl, hb8⟩; have HJ8 := Lib.hid (HJ7.out.below hb8); clear hb8)
          | (go_at_call 60; refine (SI.out _ gs1 gt1 HJ8.out.1).mono ?_; rintro e w9 ⟨rfl, hs9, hk9⟩; have HJ9 := Lib.hid (HJ8.out.sign hs9 hk9); clear hs9 hk9)
          | (go_at_call 51; refine (LF.out _).mono ?_; rintro e w10 ⟨rfl, hb10⟩))
        have hu10 := (hb10.block _ (blk_lt HJ9.out.2.2.1)).trans HJ9.out.2.2.1
        have cu := (blk_cell hu10 n).trans (usedC_at N n n HN.out)
        rw [decide_eq_false (Nat.lt_irrefl n)] at cu
        have fu := blk_frozen hu10 n
        have HU10 := Lib.hid hu10
        have HS10 := Lib.hid (HJ9.out.1.below hb10)
        have HD10 := Lib.hid (HJ9.out.2.1.below hb10)
        clear hu10 hb10
        go_upto_region 22 with fail
        have hmm := NS.mark (n := n) HS10.out HD10.out HU10.out HJ9.out.2.2.2.1 HJ9.out.2.2.2.2.1 HJ9.out.2.2.2.2.2
        have hJ11 : NS w gs1 gt1 gd gu s h (n + 1) N l (w10.setCell ⟨gu, n, none⟩ (.bool true)) := ⟨hmm.1, hmm.2.1, hmm.2.2, HJ9.out.2.2.2⟩
        have HJ11 := Lib.hid hJ11
        clear hmm hJ11 cu fu
        generalize w10.setCell ⟨gu, n, none⟩ (.bool true) = w11 at *
        go_upto_if 100 with (go_at_call 37; refine (deck_next 2 HJ11.out.2.1 (by decide) (by decide)).mono ?_; rintro e w12 ⟨r, rfl, r0, r1, hd12, hk12⟩; have HJ12 := Lib.hid (HJ11.out.deck hd12 hk12); clear hd12 hk12)
        have hr : r = 0 ∨ r = 1 := by omega
        clear r0 r1
        rcases hr with rfl | rfl
        · go_wp2
          go_roundw
          case rel => exact ⟨gs1, gt1, n + 1, i + 1, HN.out, by omega, rfl, by go_num, HJ12.out⟩
          case measure => simp [intOf]; omega
        · go_wp2_with (go_at_call 38; refine (LD.out _).mono ?_; rintro e w13 ⟨gs2, gt2, rfl, hs13, hg13, ht13, hb13⟩; have HS13 := Lib.hid hs13; have HG13 := Lib.hid (And.intro (Nat.le_trans HJ12.out.2.1.bel.size hg13) (Nat.le_trans HJ12.out.2.1.bel.size ht13)); have HJ13 := Lib.hid (HJ12.out.below hb13); clear hs13 hg13 ht13 hb13)
          go_roundw
          case rel => exact ⟨gs2, gt2, n + 1, i + 1, HN.out, by omega, rfl, by go_num, HS13.out, HJ13.out.2.1, HJ13.out.2.2.1, HG13.out.1, HG13.out.2, HJ13.out.2.2.2.2.2⟩
          case measure => simp [intOf]; omega
      · obtain rfl : n = N := by omega
        have hsv1 := HSV.out n (Nat.le_refl _)
        obtain ⟨sv, hsv⟩ : ∃ y, y = saveS s h n := ⟨_, rfl⟩
        rw [← hsv] at hsv1
        have SV := Lib.hid hsv1
        clear hsv hsv1 hnN hn
        go_wp2_with (first
          | (go_at_call 63; refine (HFK.out _ gs1 gt1 n HJ.out.1).mono ?_; rintro e w6 ⟨gx, rfl, hx6, hgx, hb6⟩; have HX6 := Lib.hid hx6; have HNE := Lib.hid (show gs1 ≠ gx from fun e => by have := HJ.out.1.lt; omega); have HGX := Lib.hid (Nat.le_trans HJ.out.2.1.bel.size hgx); have HJ6 := Lib.hid (HJ.out.below hb6); clear hx6 hgx hb6)
          | (go_at_call 62; refine (HSKB.out _ gx gt1 HX6.out).mono ?_; rintro e w7 ⟨rfl, hx7, hk7⟩; have HX7 := Lib.hid hx7; have HJ7 := Lib.hid (HJ6.out.copy HX6.out hk7 HGX.out HNE.out); clear hx7 hk7)
          | (go_at_call 39; refine (SV.out _ gx gt1 HX7.out).mono ?_; rintro e w8 ⟨rfl, hb8⟩; have HJ8 := Lib.hid (HJ7.out.below hb8); clear hb8)
          | (go_at_call 60; refine (HSO.out _ gs1 gt1 HJ8.out.1).mono ?_; rintro e w9 ⟨rfl, hb9⟩; have HJ9 := Lib.hid (HJ8.out.below hb9); clear hb9)
          | (go_at_call 35; refine (awake13 _).mono ?_; rintro e w10 ⟨rfl, hb10⟩; have HJ10 := Lib.hid (HJ9.out.below hb10); clear hb10)
          | (go_at_call 59; refine (HLO.out _ gs1 gt1 HJ10.out.1).mono ?_; rintro e w11 ⟨rfl, hb11⟩; have HJ11 := Lib.hid (HJ10.out.below hb11); clear hb11))
        go_ret
        exact ⟨rfl, HJ11.out.2.1.bel⟩
    · have qi : (6 : Int) ≤ (i : Int) := by omega
      go_wp2_with (go_at_call 35; refine (awake13 _).mono ?_; rintro e w10 ⟨rfl, hb10⟩; have HJ10 := Lib.hid (HJ.out.below hb10); clear hb10)
      go_ret
      exact ⟨rfl, HJ10.out.2.1.bel⟩
end Go.Proofs.Ytilehfdplgciiaa.Hand
