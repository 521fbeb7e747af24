import Derived.Test.YtilehfdplgciiaaProg
import Derived.Test.YtilehfdplgciiaaStrm
import Derived.Test.YtilehfdplgciiaaHash0
import Derived.Test.YtilehfdplgciiaaHash1
import Derived.WalkKit
import Derived.KernelRfl
import Derived.Outline
import Derived.StillTailTactics
import Derived.BigRegion
import Derived.BigQuiet
import Derived.Deep.QuietTactic
import Derived.Lib.Hide
import Derived.Laws.CopyOwn
import Derived.Deep.DeepCutAuto
import Derived.Deep.RegionWith
import Derived.WalkSpells
import Derived.Deep.RegionHeld3
import Derived.Deep.MidRow
namespace Go.Proofs.Ytilehfdplgciiaa.Hand
open Go.RowKit Go.Proofs.YtilehfdplgciiaaW.PrintWords
set_option linter.unusedVariables false

theorem info_u8 : (Try.prog.info? 5).map (fun i => (i.zero, i.size, i.bytes)) = some (some (.int .u8 0), 1, 1) := by kernel_rfl

noncomputable def u8i : TypeInfo := (Try.prog.info? 5).getD default
theorem info_u8i : Try.prog.info? 5 = some u8i := by kernel_rfl
theorem write_none (B : Nat) (g : Nat) (hs rest : List Int) (n : Nat) (b : ByteArray) (w : World) (hb : b.toList = []) :
    Calls Try.prog 92 #[.pointer (some ⟨g, 0, none⟩), .string b] w fun e w' => e = .returned (.tuple #[]) ∧ w = w' := by
  have hb2 : (!b.toList.isEmpty) = false := by simp [hb]
  have hb3 : b.toList.isEmpty = true := by simp [hb]
  go_enter Try.func92, Try.ntmps92
  go_wp2
  exact bodyPost_ret (v := .tuple #[]) (by simp [results, Try.results92, go_sem]) rfl ⟨rfl, rfl⟩

set_option maxHeartbeats 1000000 in
set_option maxRecDepth 100000 in
theorem write_some (B : Nat) (g : Nat) (hs rest h1 : List Int) (n : Nat) (b : ByteArray) (r : List Int × List Int) (w : World) (hb : 0 < b.size) (hh1 : Hid (h1 = if n = 0 then IV else hs)) (hr : Hid (comp h1 (rest ++ bytesOf b) = r)) (hI : Strm 118 5 B w g hs rest n) (hsz : n + b.size ≤ 1099511627776) (hrest : rest.length ≤ 64) :
    Calls Try.prog 92 #[.pointer (some ⟨g, 0, none⟩), .string b] w fun e w' => e = .returned (.tuple #[]) ∧
      Strm 118 5 B w' g r.1 r.2 (n + b.size) ∧ Below B w w' := by
  obtain ⟨v, hS, h8, hBg, hO⟩ := hI
  have hb1 : ¬ b.toList = [] := by
    intro h
    have : b.toList.length = b.size := by rw [ByteArray.toList_eq]; exact data_length b
    rw [h] at this
    simp at this
    omega
  have hb2 : (!b.toList.isEmpty) = true := by simpa using hb1
  have hb3 : b.toList.isEmpty = false := by simpa using hb1
  have hrl : r.2.length < 64 := by rw [← hr.out]; exact comp_rest _ _
  have cn := strm_n hS h8
  have hBw : B ≤ w.heap.size := by have := blk_lt hS; omega
  go_enter Try.func92, Try.ntmps92
  go_upto_if 15 with fail
  go_cut [14] (fun _ w' => w'.heap[g]? = some (.cells (strm h1 v n) 118 (0, 0)) ∧ w'.ownsRow B 5 1 v rest.length (nums .u8 rest) ∧ Below B w w')
  case first =>
    by_cases hn : n = 0
    · subst hn
      go_wp2_with fail
      refine (initial_any _).mono ?_
      rintro e w1 ⟨rfl, hb1⟩
      replace hS := blk_below hS hb1
      replace hO := pw_own_below hO hb1
      have hB1 := hb1.mono hBw
      go_wp2_with (refine wpList_store_mid rfl 116 (.tmp 19) (.tmp 17) rfl g 0 (ws IV) rfl rfl (strm_there hS h8) size_state (ws_one _) ?_)
      go_meet
      case rel => exact ⟨by rw [show h1 = IV from hh1.out]; exact strm_setH hS h8 rfl, own_cells hO hS (by decide) _ _, below_cells hB1 hBg _ _⟩
    · have hn2 : ((n : Int) == 0) = false := by simpa using hn
      go_wp2
      go_meet
      case rel => exact ⟨by rw [show h1 = hs from hh1.out.trans (if_neg hn)]; exact hS, hO, Below.refl _ _⟩
  case rest =>
    clear hS hO cn
    obtain ⟨hS, hO, hB⟩ := hcut
    have hl8 : h1.length = 8 := by rw [hh1.out]; split; exact rfl; exact h8
    clear hh1
    have cn := strm_n hS hl8
    have fn := blk_frozen hS 9
    go_upto_region 4 with fail
    have hS2 := strm_setN hS hl8 ((n : Int) + b.size)
    have hO2 := own_cell hO hS (by decide) (.int .i64 ((n : Int) + b.size)) 9
    have hB2 : Below B w (wc.setCell ⟨g, 9, none⟩ (.int .i64 ((n : Int) + b.size))) := hB.setCell hBg _
    generalize wc.setCell ⟨g, 9, none⟩ (.int .i64 ((n : Int) + b.size)) = w2 at hS2 hO2 hB2 ⊢
    clear hS hO hB cn fn
    have cr := strm_rest hS2 hl8
    obtain ⟨A, c, rfl, hR⟩ := own_reads hO2
    have hBw2 : B ≤ w2.heap.size := by have := blk_lt hS2; omega
    have hge := blk_lt hS2
    go_upto_block 0 with (first | (at_builtin; refine print_append_row (w0 := w) B rfl (.const (.slice none 0 0)) (.tmp 32) 24 5 .u8 1 rfl Try.underlying24 info_u8 (by decide) (.slice none 0 0) [] rest A rest.length c rfl rfl (own_nil _ _ _ _) hR hB2 hBw2 (by simp; omega) ?_; intro v3 w3 hO3 hB3 hg3 hat3; simp only [List.nil_append] at hO3; have hsz3 := hg3.size) | (at_builtin; refine print_append_str (w0 := w) B rfl (.tmp 33) (.tmp 34) 24 9 5 rfl Try.underlying24 Try.underlying9 info_u8 v3 rest b rfl rfl hO3 hB3 (Nat.le_trans hBw2 hsz3) (by omega) ?_; intro v4 w4 hO4 hB4 hg4))
    have hS3 := blk_grown hS2 hg3 (by simp [Value.ownBlock])
    have hS4 := blk_grown hS3 hg4 (fun e => own_apart hO3 hS3 (by decide) g e.symm rfl)
    obtain ⟨A4, c4, rfl, hR4⟩ := own_reads hO4
    have hc4 := (own_cap hO4).2
    have ha4 : ∀ ad, A4 = some ad → ad.block ≠ g := fun ad e => own_apart hO4 hS4 (by decide) _ (own_block hO4 ad e)
    have hl4 : (rest ++ bytesOf b).length = rest.length + b.size := by rw [List.length_append, bytesOf_length]
    have hBw4 : B ≤ w4.heap.size := by have := blk_lt hS4; omega
    generalize (rest ++ bytesOf b).length = n4 at *
    clear hO4 hS3 hO3 hB3 hg3 hat3 hsz3 hg4 hS2 hO2 cr hge hBw2 hB2
    have HL4 : n4 ≤ 1099511627776 + 64 := by omega
    clear hl4
    have hA4' : ∀ ad, A4 = some ad → 0 < n4 → ad.block ≠ g := fun ad e _ => ha4 ad e
    clear ha4 hR
    generalize (Value.slice A rest.length c) = rv at *
    go_cut [4] (fun s4 w' => ∃ (A : Option Addr) (m c : Nat), s4 = .slice A m c ∧ m ≤ c ∧ ReadsInt w' .u8 A m r.2 ∧ (∀ ad, A = some ad → 0 < m → ad.block ≠ g) ∧ r.1.length = 8 ∧ w'.heap[g]? = some (.cells (strm r.1 rv ((n : Int) + b.size)) 118 (0, 0)) ∧ Below B w w')
    case first =>
      go_wp2
      go_loopw [4] (fun s4 wr => ∃ (A : Option Addr) (m c : Nat) (xs hc : List Int), s4 = .slice A m c ∧ m ≤ c ∧ m ≤ 1099511627776 + 64 ∧ ReadsInt wr .u8 A m xs ∧ (∀ ad, A = some ad → 0 < m → ad.block ≠ g) ∧ hc.length = 8 ∧ Hid (comp hc xs = r) ∧ wr.heap[g]? = some (.cells (strm hc rv ((n : Int) + b.size)) 118 (0, 0)) ∧ Below B w wr)
        (fun s4 _ => slen s4)
      case atStart => exact ⟨A4, n4, c4, _, h1, rfl, hc4, HL4, hR4, hA4', hl8, hr, hS4, hB4⟩
      case round =>
        clear hS4 hB4 hR4 hA4' hc4 HL4 hl8 hr
        obtain ⟨A, m, c, xs, hc, rfl, hmc, hm, hR, hA, hl8, hr, hS, hB⟩ := hrel
        by_cases h64 : 64 ≤ m
        · obtain ⟨ab, off, rfl, hab, hcell⟩ := reads_plain hR (by omega)
          have hlen := hR.1
          subst hlen
          obtain ⟨hcut, -, -⟩ := print_take_of (P := Try.prog) (Value.int .u8) (0 : Int) 24 5 .i64 Try.underlying24 info_u8i (by rfl) (some ⟨ab, off, none⟩) c xs 64 (by omega) (by omega) hmc
          have hl64 : (xs.take (64 : Int).toNat).length = 64 := by rw [List.length_take]; show min 64 xs.length = 64; omega
          rw [hl64] at hcut
          obtain ⟨A', hcut2, hread2, hblk2⟩ := cut_block (P := Try.prog) 24 5 .i64 Try.underlying24 info_u8i (by rfl) (some ⟨ab, off, none⟩) xs.length c 64 (by omega)
          have HRD := Lib.hid hread2
          have HBK := Lib.hid hblk2
          clear hread2 hblk2
          rw [show ((64 : Nat) : Int) = 64 from rfl] at hcut2
          obtain ⟨x0, x1, x2, x3, x4, x5, x6, x7, rfl⟩ := list8 hc hl8
          have hS' : wr.drew.heap[g]? = some (.cells (strm [x0, x1, x2, x3, x4, x5, x6, x7] rv ((n : Int) + b.size)) 118 (0, 0)) := hS
          have hB' : Below B w wr.drew := hB.drew
          have hcell' : ∀ j, j < 64 → wr.drew.cell? ⟨ab, off + j, none⟩ = some (.int .u8 (rd (xs.take 64) j)) := fun j hj => by rw [rd_take xs 64 j hj]; exact hcell j (by omega)
          have hR' : ReadsInt wr.drew .u8 (some ⟨ab, off, none⟩) xs.length xs := hR
          have hab' : ab < wr.drew.heap.size := hab
          have hBs : B ≤ wr.drew.heap.size := by have := blk_lt hS'; omega
          have c0 : wr.cell? ⟨g, 0, none⟩ = some (.int .u32 x0) := strm_cell hS 0 (by simp)
          have f0 := blk_frozen hS 0
          have c1 : wr.cell? ⟨g, 1, none⟩ = some (.int .u32 x1) := strm_cell hS 1 (by simp)
          have f1 := blk_frozen hS 1
          have c2 : wr.cell? ⟨g, 2, none⟩ = some (.int .u32 x2) := strm_cell hS 2 (by simp)
          have f2 := blk_frozen hS 2
          have c3 : wr.cell? ⟨g, 3, none⟩ = some (.int .u32 x3) := strm_cell hS 3 (by simp)
          have f3 := blk_frozen hS 3
          have c4 : wr.cell? ⟨g, 4, none⟩ = some (.int .u32 x4) := strm_cell hS 4 (by simp)
          have f4 := blk_frozen hS 4
          have c5 : wr.cell? ⟨g, 5, none⟩ = some (.int .u32 x5) := strm_cell hS 5 (by simp)
          have f5 := blk_frozen hS 5
          have c6 : wr.cell? ⟨g, 6, none⟩ = some (.int .u32 x6) := strm_cell hS 6 (by simp)
          have f6 := blk_frozen hS 6
          have c7 : wr.cell? ⟨g, 7, none⟩ = some (.int .u32 x7) := strm_cell hS 7 (by simp)
          have f7 := blk_frozen hS 7
          have HS := Lib.hid hS'
          have HB := Lib.hid hB'
          have HC := Lib.hid hcell'
          have HR := Lib.hid hR'
          clear hS' hB' hcell' hR'
          go_wp2
          go_region_with (first | (go_at_call 95; refine (block_lit (blockF_len _ _ rfl) (block_any x0 x1 x2 x3 x4 x5 x6 x7 (xs.take 64) ab off 64 c _ (by omega) (by omega) HC.out hab')).mono ?_; rintro e w6 ⟨y0, y1, y2, y3, y4, y5, y6, y7, rfl, HY, hb6⟩; have hS6 := blk_below HS.out hb6; have e0 : w6.cell? ⟨g, 0, none⟩ = some (.int .u32 x0) := strm_cell hS6 0 (by simp); have g0 := blk_frozen hS6 0; have e1 : w6.cell? ⟨g, 1, none⟩ = some (.int .u32 x1) := strm_cell hS6 1 (by simp); have g1 := blk_frozen hS6 1; have e2 : w6.cell? ⟨g, 2, none⟩ = some (.int .u32 x2) := strm_cell hS6 2 (by simp); have g2 := blk_frozen hS6 2; have e3 : w6.cell? ⟨g, 3, none⟩ = some (.int .u32 x3) := strm_cell hS6 3 (by simp); have g3 := blk_frozen hS6 3; have e4 : w6.cell? ⟨g, 4, none⟩ = some (.int .u32 x4) := strm_cell hS6 4 (by simp); have g4 := blk_frozen hS6 4; have e5 : w6.cell? ⟨g, 5, none⟩ = some (.int .u32 x5) := strm_cell hS6 5 (by simp); have g5 := blk_frozen hS6 5; have e6 : w6.cell? ⟨g, 6, none⟩ = some (.int .u32 x6) := strm_cell hS6 6 (by simp); have g6 := blk_frozen hS6 6; have e7 : w6.cell? ⟨g, 7, none⟩ = some (.int .u32 x7) := strm_cell hS6 7 (by simp); have g7 := blk_frozen hS6 7))
          rw [setCells8]
          have hneg := hA _ rfl (by omega)
          have hS7 := strm_setH (hs' := [y0, y1, y2, y3, y4, y5, y6, y7]) hS6 rfl rfl
          have hR7 := reads_cells (HR.out.below hb6) (g := g) (fun ad e _ => by injection e with e; subst e; exact hneg) (u32s [y0, y1, y2, y3, y4, y5, y6, y7]) 0
          have hB7 := below_cells (below_weaken_at HB.out hb6 hBs) hBg (u32s [y0, y1, y2, y3, y4, y5, y6, y7]) 0
          have hr7 := Lib.hid (show comp [y0, y1, y2, y3, y4, y5, y6, y7] (xs.drop 64) = r by rw [← HY.out, ← comp_more _ _ h64]; exact hr.out)
          generalize w6.setCells g 0 (u32s [y0, y1, y2, y3, y4, y5, y6, y7]) = w7 at hS7 hR7 hB7 ⊢
          have hd := List.length_drop (l := xs) (i := 64)
          have HR7 := Lib.hid hR7
          clear hS6 e0 e1 e2 e3 e4 e5 e6 e7 g0 g1 g2 g3 g4 g5 g6 g7 c0 c1 c2 c3 c4 c5 c6 c7 f0 f1 f2 f3 f4 f5 f6 f7 HS HB HC HR HY hb6 hr hS hR hB hR7
          go_wp2
          go_roundw
          case rel => exact ⟨A', _, _, xs.drop 64, [y0, y1, y2, y3, y4, y5, y6, y7], rfl, by omega, by omega, HRD.out _ _ _ hmc HR7.out, fun ad e _ => by obtain ⟨ad0, e0, e1⟩ := HBK.out ad e; injection e0 with e0; rw [e1, ← e0]; exact hneg, rfl, hr7, hS7, hB7⟩
          case measure => simp only [slen]; omega
        · have hxs : xs.length < 64 := by have := hR.1; omega
          have hr1 := hr.out
          rw [comp_done _ _ hxs] at hr1
          subst hr1
          clear hr
          go_wp2
          go_meet
          case rel => exact ⟨A, m, c, rfl, hmc, hR, hA, hl8, hS, hB⟩
    case rest =>
      clear hS4 hB4 hR4 hA4' hc4 HL4 hl8 hr
      obtain ⟨A, m, c, rfl, hmc, hR, hA, hl8, hS, hB⟩ := hcut
      have hmm := hR.1
      subst hmm
      have hBc : B ≤ wc.heap.size := by have := blk_lt hS; omega
      go_wp2_with (at_builtin; refine print_append_row (w0 := w) B rfl (.const (.slice none 0 0)) (.tmp 52) 24 5 .u8 1 rfl Try.underlying24 info_u8 (by decide) (.slice none 0 0) [] r.2 A r.2.length c rfl rfl (own_nil _ _ _ _) hR hB hBc (by simp; omega) ?_; intro v7 w7 hO7 hB7 hg7 hat7; simp only [List.nil_append] at hO7; have hS7 := blk_grown hS hg7 (by simp [Value.ownBlock]); have hf7 := blk_frozen hS7 8; have hc7 := strm_rest hS7 hl8; obtain ⟨A7, c7, rfl⟩ := own_slice hO7)
      go_end0
      exact ⟨rfl, ⟨_, strm_setRest hS7 hl8 _, hl8, hBg, own_cell hO7 hS7 (by decide) _ _⟩, hB7.setCell hBg _⟩
end Go.Proofs.Ytilehfdplgciiaa.Hand
