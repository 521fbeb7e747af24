import Derived.Test.YtilehfdplgciiaaVer
import Derived.Test.YtilehfdplgciiaaRRef
/-! certpathlaw12.MerkleErrors, walked. -/
namespace Go.Proofs.Ytilehfdplgciiaa.Hand
open Go.RowKit Go.Proofs.YtilehfdplgciiaaW.PrintWords Go.Proofs.Ytilehfdplgciiaa.PLM Go.Proofs.Ytilehfdplgciiaa.Plain
set_option linter.unusedVariables false
attribute [local go_sem ↓] Go.wp_at_zero Go.wp_at_succ

theorem rcheck_any (h : Int) (id rt : ByteArray) (W : World) : Calls Try.prog 49 #[.agg #[.int .i64 h, .string id, .string rt]] W fun e w' => e = .returned (.int .i64 (if 0 ≤ h ∧ h ≤ 8 ∧ id.size = 16 ∧ rt.size = 16 then 0 else 18)) ∧ Below W.heap.size W w' := by
  refine certpathref11_CheckKey.calls h id rt _ W ?_
  unfold certpathref11_CheckKey.f
  by_cases h1 : h < 0
  · rw [if_pos h1, if_neg (by omega)]
  · rw [if_neg h1]
    by_cases h2 : h > 8
    · rw [if_pos h2, if_neg (by omega)]
    · rw [if_neg h2]
      by_cases h3 : (id.size : Int) = 16
      · rw [if_pos h3]
        by_cases h4 : (rt.size : Int) = 16
        · rw [if_pos h4, if_pos ⟨by omega, by omega, by omega, by omega⟩]
        · rw [if_neg h4, if_neg (by omega)]
      · rw [if_neg h3, if_neg (by omega)]
/-- The key's variable lies as it was laid; what was there when the call began is as it was. -/
def Jk (w : World) (h : Int) (id rt : ByteArray) (W : World) : Prop := W.heap[w.heap.size]? = some (.cells #[.int .i64 h, .string id, .string rt] 58 (0, 0)) ∧ Below w.heap.size w W
theorem Jk.below {w W W2 : World} {h : Int} {id rt : ByteArray} (j : Jk w h id rt W) (hb : Below W.heap.size W W2) : Jk w h id rt W2 := ⟨(hb.block _ (blk_lt j.1)).trans j.1, j.2.trans (hb.mono j.2.size)⟩
theorem Jk.keep {w W W2 : World} {h : Int} {id rt : ByteArray} {g : Nat} (j : Jk w h id rt W) (k : Kp (fun i => i = g) W W2) (hg : w.heap.size < g) : Jk w h id rt W2 := ⟨(k.block _ (blk_lt j.1) (by omega)).trans j.1, k.below_at j.2 (by omega)⟩
set_option maxHeartbeats 4000000 in
set_option maxRecDepth 100000 in
theorem merkleErrors_walk (w : World) (s : ByteArray) (hs : s.size ≤ 140737488351232) (ht : Int) (hh0 : -9223372036854775808 ≤ ht) (hh1 : ht ≤ 9223372036854775807) (leaf : Int) (hl0 : -9223372036854775808 ≤ leaf) (hl1 : leaf ≤ 9223372036854775807) (m : ByteArray) (hm : m.size ≤ 140737488351232) (kh : Int) (id rt : ByteArray) (hk0 : -9223372036854775808 ≤ kh) (hk1 : kh ≤ 9223372036854775807) :
    Calls Try.prog 12 #[.string s, .int .i64 ht, .int .i64 leaf, .string m, .agg #[.int .i64 kh, .string id, .string rt]] w fun e w' => e = .returned (.bool true) ∧ Below w.heap.size w w' := by
  have hJ : Jk w kh id rt (w.alloc (.cells #[.int .i64 kh, .string id, .string rt] 58)) := ⟨heap_alloc_new w _, below_alloc (Below.refl _ _) _⟩
  have HJ := Lib.hid hJ
  have c1 : (w.alloc (.cells #[.int .i64 kh, .string id, .string rt] 58)).cell? ⟨w.heap.size, 1, none⟩ = some (.string id) := (blk_cell hJ.1 1).trans rfl
  have c2 : (w.alloc (.cells #[.int .i64 kh, .string id, .string rt] 58)).cell? ⟨w.heap.size, 2, none⟩ = some (.string rt) := (blk_cell hJ.1 2).trans rfl
  clear hJ
  by_cases big : s.size ≤ 60 ∧ m.size ≤ 200 ∧ id.size ≤ 60 ∧ rt.size ≤ 60
  · obtain ⟨b1, b2, b3, b4⟩ := big
    go_enter Try.func12, Try.ntmps12
    go_upto_region 3 with fail
    clear c1 c2
    generalize w.alloc (.cells #[.int .i64 kh, .string id, .string rt] 58) = w1 at *
    have HS60 := Lib.hid b1
    have HM := Lib.hid b2
    clear b1 b2 b3 b4
    obtain ⟨b55, hb55⟩ : ∃ b : Bool, b = decide (s.size ≠ 32 ∨ ht < 0 ∨ 8 < ht) := ⟨_, rfl⟩
    have HB55 := Lib.hid hb55
    clear hb55
    go_cut [55] (fun s55 w' => s55 = .bool b55 ∧ w1 = w')
    case first =>
      have hcase : ((s.size : Int) != 32) = true ∨ ((s.size : Int) != 32) = false ∧ (ht < 0 ∨ 0 ≤ ht ∧ (8 < ht ∨ ht ≤ 8)) := by
        by_cases h32 : s.size = 32
        · exact .inr ⟨by simp; omega, by omega⟩
        · exact .inl (by simp; omega)
      rcases hcase with h1 | ⟨h1, h2 | ⟨h2, h3 | h3⟩⟩
      · have hd : b55 = true := by rw [HB55.out]; simp at h1; simp; omega
        have HD := Lib.hid hd
        clear hd
        go_wp2
        go_meet
        case rel => exact ⟨by rw [HD.out], rfl⟩
      · have hd : b55 = true := by rw [HB55.out]; simp; omega
        have HD := Lib.hid hd
        clear hd
        go_wp2
        go_meet
        case rel => exact ⟨by rw [HD.out], rfl⟩
      · have hd : b55 = true := by rw [HB55.out]; simp; omega
        have HD := Lib.hid hd
        clear hd
        go_wp2
        go_meet
        case rel => exact ⟨by rw [HD.out], rfl⟩
      · have hd : b55 = false := by rw [HB55.out]; simp at h1; simp; omega
        have hd2 : (decide (ht < 0) || decide (8 < ht)) = false := by simp; omega
        have HD := Lib.hid hd
        have HD2 := Lib.hid hd2
        clear hd hd2
        go_wp2
        go_meet
        case rel => exact ⟨by rw [HD.out]; first | rfl | rw [HD2.out], rfl⟩
    case rest =>
    obtain ⟨rfl, rfl⟩ := hcut
    go_upto_if 55 with fail
    go_cut [] (fun w' => Jk w kh id rt w')
    case first =>
      by_cases bad : s.size ≠ 32 ∨ ht < 0 ∨ 8 < ht
      · obtain ⟨x, hg, hr⟩ : ∃ x : Int, (∀ W : World, Calls Try.prog 40 #[.string s, .int .i64 ht] W fun e w' => e = .returned (.tuple #[.pointer none, .int .i64 x]) ∧ W = w') ∧
            (∀ W : World, Calls Try.prog 46 #[.string s, .int .i64 ht] W fun e w' => e = .returned (.tuple #[.agg #[.string ⟨#[]⟩, .string ⟨#[]⟩, .slice none 0 0], .int .i64 x]) ∧ Below W.heap.size W w') := by
          by_cases h32 : s.size = 32
          · have h2 : ht < 0 ∨ 8 < ht := by omega
            exact ⟨1, fun W => gen_height W s ht h32 h2, fun W => rgen_height W s ht h32 h2⟩
          · exact ⟨18, fun W => gen_size W s ht h32, fun W => rgen_size W s ht h32⟩
        have hd : b55 = true := by rw [HB55.out]; exact decide_eq_true bad
        subst hd
        clear bad HB55
        go_wp2_with (first | (go_at_call 40; refine (hg _).mono ?_; rintro e w' ⟨rfl, rfl⟩) | (go_at_call 46; refine (hr _).mono ?_; rintro e w2 ⟨rfl, hb2⟩))
        go_meet
        case rel => exact (HJ.out.below hb2).below (below_alloc (Below.refl _ _) _)
      · have hd : b55 = false := by rw [HB55.out]; exact decide_eq_false bad
        subst hd
        clear bad HB55
        go_wp2
        go_meet
        case rel => exact HJ.out
    case rest =>
    have HJ2 := Lib.hid hcut
    clear hcut HJ HS60 HB55
    have hs3 := seed_size 3
    have HS3 := Lib.hid hs3
    clear hs3
    have hgen : ∀ W : World, Calls Try.prog 40 #[.string (seed 3), .int .i64 1] W fun e w' => ∃ g : Nat, e = .returned (.tuple #[.pointer (some ⟨g, 0, none⟩), .int .i64 0]) ∧ TS w' g (seed 3) 1 ∧ W.heap.size ≤ g ∧ Below W.heap.size W w' := fun W => gen_any W (seed 3) 1 HS3.out (by decide)
    go_upto_region 11 with (first | (go_at_call 28; refine (seed_any 3 _).mono ?_; rintro e w2 ⟨rfl, hb2⟩) | (go_at_call 40; refine (hgen _).mono ?_; rintro e w3 ⟨g, rfl, ht3, hg3, hb3⟩))
    have HJ3 := Lib.hid ((HJ2.out.below hb2).below hb3)
    have HT3 := Lib.hid ht3
    have HG := Lib.hid (show w.heap.size < g by have := blk_lt HJ2.out.1; have := hb2.size; omega)
    clear hgen ht3 hg3 hb2 hb3 HJ2
    go_cut [17, 18] (fun _ s18 w' => ∃ f : Int, s18 = .int .i64 f ∧ ((leaf = 0 ∨ leaf = 1) ∧ f = 0 ∨ (leaf ≠ 0 ∧ leaf ≠ 1) ∧ f = 1) ∧ Jk w kh id rt w')
    case first =>
      by_cases hin : leaf = 0 ∨ leaf = 1
      · obtain ⟨lf, rfl⟩ := Int.eq_ofNat_of_zero_le (show 0 ≤ leaf by omega)
        have hlt : lf < 2 ^ 1 := by omega
        have HLT := Lib.hid hlt
        have HIN := Lib.hid hin
        clear hlt hin
        go_wp2_with (go_at_call 47; refine (sign_in _ g (seed 3) 1 lf m HT3.out HS3.out (by decide) HLT.out (by have := HM.out; omega)).mono ?_; rintro e w5 ⟨rfl, ht5, hk5⟩)
        go_meet
        case rel => exact ⟨0, rfl, .inl ⟨HIN.out, rfl⟩, HJ3.out.keep hk5 HG.out⟩
      · have hout : leaf < 0 ∨ ((2 ^ 1 : Nat) : Int) ≤ leaf := by omega
        have HO := Lib.hid hout
        have HIN := Lib.hid (show leaf ≠ 0 ∧ leaf ≠ 1 by omega)
        clear hout hin
        go_wp2_with (go_at_call 47; refine (sign_out _ g (seed 3) 1 leaf m HT3.out HS3.out (by decide) HO.out).mono ?_; rintro e w5 ⟨rfl, rfl⟩)
        go_meet
        case rel => exact ⟨1, rfl, .inr ⟨HIN.out, rfl⟩, HJ3.out⟩
    case rest =>
    clear HJ3 HT3 HG HM hm
    obtain ⟨f, rfl, hf, hJ⟩ := hcut
    have HJ4 := Lib.hid hJ
    clear hJ
    have HF := Lib.hid hf
    clear hf
    obtain ⟨wd, hwd⟩ : ∃ wd : World, wd = wc := ⟨_, rfl⟩
    subst hwd
    go_upto_region 12 with fail
    go_cut [109] (fun s109 w' => s109 = .bool false ∧ wd = w')
    case first =>
      have hf := HF.out
      rcases hf with ⟨h1 | h1, h2⟩ | ⟨⟨h1, h3⟩, h2⟩
      · subst h1 h2
        go_wp2
        go_meet
        case rel => exact ⟨rfl, rfl⟩
      · subst h1 h2
        go_wp2
        go_meet
        case rel => exact ⟨rfl, rfl⟩
      · subst h2
        have e0 : (leaf == 0) = false := by simpa using h1
        have e1 : (leaf == 1) = false := by simpa using h3
        clear h1 h3
        go_wp2
        go_meet
        case rel => exact ⟨rfl, rfl⟩
    case rest =>
    clear HF
    obtain ⟨rfl, rfl⟩ := hcut
    go_upto_block 0 with fail
    have hJ5 := (HJ4.out.below (below_alloc (Below.refl _ wd) (.cells #[.slice none 0 0, .string ⟨#[]⟩, .string ⟨#[]⟩, .int .i64 0] 73))).below (below_alloc (Below.refl _ _) (.cells #[.pointer none, .pointer (some ⟨wd.heap.size, 0, none⟩)] 54))
    have hT5 : Tr ((wd.alloc (.cells #[.slice none 0 0, .string ⟨#[]⟩, .string ⟨#[]⟩, .int .i64 0] 73)).alloc (.cells #[.pointer none, .pointer (some ⟨wd.heap.size, 0, none⟩)] 54)) wd.heap.size (.slice none 0 0) ⟨#[]⟩ ⟨#[]⟩ 0 := by
      unfold Tr
      rw [Below.heap_alloc _ _ _ (by simp)]
      exact heap_alloc_new wd _
    have hP5 : ((wd.alloc (.cells #[.slice none 0 0, .string ⟨#[]⟩, .string ⟨#[]⟩, .int .i64 0] 73)).alloc (.cells #[.pointer none, .pointer (some ⟨wd.heap.size, 0, none⟩)] 54)).heap[wd.heap.size + 1]? = some (.cells #[.pointer none, .pointer (some ⟨wd.heap.size, 0, none⟩)] 54 (0, 0)) := by
      have := heap_alloc_new (wd.alloc (.cells #[.slice none 0 0, .string ⟨#[]⟩, .string ⟨#[]⟩, .int .i64 0] 73)) (.cells #[.pointer none, .pointer (some ⟨wd.heap.size, 0, none⟩)] 54)
      simpa using this
    have HJ5 := Lib.hid hJ5
    have HT5 := Lib.hid hT5
    have HP5 := Lib.hid hP5
    clear hJ5 hT5 hP5 HJ4
    generalize (wd.alloc (.cells #[.slice none 0 0, .string ⟨#[]⟩, .string ⟨#[]⟩, .int .i64 0] 73)).alloc (.cells #[.pointer none, .pointer (some ⟨wd.heap.size, 0, none⟩)] 54) = wz at *
    generalize hgz : wd.heap.size = gz at *
    clear hgz
    go_wp2
    go_loopw [21, 22, 23, 115] (fun _ _ _ s115 wr => ∃ j : Nat, j ≤ 2 ∧ s115 = .int .i64 j ∧ Below wz.heap.size wz wr) (fun _ _ _ s115 _ => (2 - intOf s115).toNat)
    case atStart => exact ⟨0, Nat.zero_le _, rfl, Below.refl _ _⟩
    case round =>
      obtain ⟨j, hj, rfl, hB⟩ := hrel
      have HB := Lib.hid hB
      have p0 : wr.cell? ⟨gz + 1, 0, none⟩ = some (.pointer none) := (hB.cell (p := ⟨gz + 1, 0, none⟩) (blk_lt HP5.out)).trans ((blk_cell HP5.out 0).trans rfl)
      have p1 : wr.cell? ⟨gz + 1, 1, none⟩ = some (.pointer (some ⟨gz, 0, none⟩)) := (hB.cell (p := ⟨gz + 1, 1, none⟩) (blk_lt HP5.out)).trans ((blk_cell HP5.out 1).trans rfl)
      have hTr : Tr wr gz (.slice none 0 0) ⟨#[]⟩ ⟨#[]⟩ 0 := (hB.block _ (blk_lt HT5.out)).trans HT5.out
      have HTr := Lib.hid hTr
      clear hB hTr
      have h012 : j = 0 ∨ j = 1 ∨ j = 2 := by omega
      rcases h012 with rfl | rfl | rfl
      · go_wp2_with (first | (go_at_call 47; refine (sign_nil leaf m _).mono ?_; rintro e w' ⟨rfl, rfl⟩) | (go_at_call 45; refine (leaves_nil _).mono ?_; rintro e w' ⟨rfl, rfl⟩) | (go_at_call 42; refine (key_nil _).mono ?_; rintro e w6 ⟨rfl, hb6⟩))
        go_roundw
        case rel => exact ⟨1, by decide, rfl, HB.out.trans (hb6.mono HB.out.size)⟩
        case measure => simp [intOf]
      · go_wp2_with (first | (go_at_call 47; refine (sign_zero leaf m _ gz _ _ _ HTr.out).mono ?_; rintro e w' ⟨rfl, rfl⟩) | (go_at_call 45; refine (leaves_zero _ gz _ _ _ HTr.out).mono ?_; rintro e w' ⟨rfl, rfl⟩) | (go_at_call 42; refine (key_zero _ gz _ _ _ HTr.out).mono ?_; rintro e w6 ⟨rfl, hb6⟩))
        go_roundw
        case rel => exact ⟨2, by decide, rfl, HB.out.trans (hb6.mono HB.out.size)⟩
        case measure => simp [intOf]
      · clear p0 p1 HTr HT5 HP5
        have hJ6 := HJ5.out.below HB.out
        have HJ6 := Lib.hid hJ6
        have d0 : wr.cell? ⟨w.heap.size, 0, none⟩ = some (.int .i64 kh) := (blk_cell hJ6.1 0).trans rfl
        have d1 : wr.cell? ⟨w.heap.size, 1, none⟩ = some (.string id) := (blk_cell hJ6.1 1).trans rfl
        have d2 : wr.cell? ⟨w.heap.size, 2, none⟩ = some (.string rt) := (blk_cell hJ6.1 2).trans rfl
        clear hJ6 HJ5 HB
        have hchk := fun W => check_any kh id rt W
        have hrck := fun W => rcheck_any kh id rt W
        generalize (if 0 ≤ kh ∧ kh ≤ 8 ∧ id.size = 16 ∧ rt.size = 16 then (0 : Int) else 18) = cc at *
        go_upto_region 22 with fail
        go_region_held3 (fun w' => w'.cell? ⟨w.heap.size, 0, none⟩ = some (.int .i64 kh) ∧ w'.cell? ⟨w.heap.size, 1, none⟩ = some (.string id) ∧ w'.cell? ⟨w.heap.size, 2, none⟩ = some (.string rt)) (go_keep) ((first
          | (go_at_call 41; refine (awake12 _).mono ?_; rintro e w7 ⟨rfl, hb7⟩; have e0 := (hb7.cell (p := ⟨w.heap.size, 0, none⟩) (World.block_lt_of_cell? _ _ d0)).trans d0; have e1 := (hb7.cell (p := ⟨w.heap.size, 1, none⟩) (World.block_lt_of_cell? _ _ d1)).trans d1; have e2 := (hb7.cell (p := ⟨w.heap.size, 2, none⟩) (World.block_lt_of_cell? _ _ d2)).trans d2)
          | (go_at_call 48; refine (hchk _).mono ?_; rintro e w8 ⟨rfl, hb8⟩; have f0 := (hb8.cell (p := ⟨w.heap.size, 0, none⟩) (World.block_lt_of_cell? _ _ e0)).trans e0; have f1 := (hb8.cell (p := ⟨w.heap.size, 1, none⟩) (World.block_lt_of_cell? _ _ e1)).trans e1; have f2 := (hb8.cell (p := ⟨w.heap.size, 2, none⟩) (World.block_lt_of_cell? _ _ e2)).trans e2)
          | (go_at_call 49; refine (hrck _).mono ?_; rintro e w9 ⟨rfl, hb9⟩; have g0 := (hb9.cell (p := ⟨w.heap.size, 0, none⟩) (World.block_lt_of_cell? _ _ f0)).trans f0; have g1 := (hb9.cell (p := ⟨w.heap.size, 1, none⟩) (World.block_lt_of_cell? _ _ f1)).trans f1; have g2 := (hb9.cell (p := ⟨w.heap.size, 2, none⟩) (World.block_lt_of_cell? _ _ f2)).trans f2)))
        go_wp2
        go_ret
        exact ⟨rfl, ((((HJ6.out.below (below_drew (Below.refl _ wr))).below hb7).below hb8).below hb9).2⟩
  · have hb : 60 < s.size ∨ s.size ≤ 60 ∧ (200 < m.size ∨ m.size ≤ 200 ∧ (60 < id.size ∨ id.size ≤ 60 ∧ 60 < rt.size)) := by omega
    clear big
    rcases hb with h1 | ⟨h1, h2 | ⟨h2, h3 | ⟨h3, h4⟩⟩⟩
    all_goals
      go_enter Try.func12, Try.ntmps12
      go_wp2_with (go_at_call 41; refine (awake12 _).mono ?_; rintro e w9 ⟨rfl, hb9⟩)
      go_ret
      exact ⟨rfl, (HJ.out.below hb9).2⟩
end Go.Proofs.Ytilehfdplgciiaa.Hand
