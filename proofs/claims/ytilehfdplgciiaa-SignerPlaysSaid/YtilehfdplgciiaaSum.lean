import Derived.Test.YtilehfdplgciiaaProg
import Derived.Test.YtilehfdplgciiaaStrm
import Derived.Test.YtilehfdplgciiaaHash0
import Derived.Test.YtilehfdplgciiaaHash1
import Derived.Test.YtilehfdplgciiaaWrite
import Derived.Deep.WholeRow
import Derived.WalkKit
import Derived.KernelRfl
import Derived.Outline
import Derived.StillTailTactics
import Derived.BigRegion
import Derived.BigQuiet
import Derived.Deep.QuietTactic
import Derived.Lib.Hide
import Derived.Laws.CopyOwn
import Derived.Deep.DeepCutAuto
import Derived.Deep.RegionWith
import Derived.WalkSpells
import Derived.Deep.RegionHeld3
import Derived.Deep.MidRow
namespace Go.Proofs.Ytilehfdplgciiaa.Hand
open Go.RowKit Go.Proofs.YtilehfdplgciiaaW.PrintWords
set_option linter.unusedVariables false

theorem lenBytes_step (n k : Nat) (hk : k < 8) : (lenBytes n).take (k + 1) = (lenBytes n).take k ++ [(n : Int) * 8 / 2 ^ (8 * (7 - k)) % 256] := by
  rcases k with _ | _ | _ | _ | _ | _ | _ | _ | k <;> first | (simp [lenBytes]; done) | omega

theorem index_state (hc : List Int) (h8 : hc.length = 8) (k : Nat) (hk : k < 8) (W : World) : (Instr.index 116 (.agg (ws hc)) (.int .i64 k)).run Try.prog W = .ok (.int .u32 (rd hc k)) W := by
  have hg := ws_get hc k (by omega)
  simp [Instr.index, run_underlying Try.underlying116, asIntOf, go_sem]
  rw [if_pos hk, hg]
  rfl
theorem outBytes_len (h : List Int) : (outBytes h).length = 4 * h.length := by
  unfold outBytes
  induction h with
  | nil => rfl
  | cons x t ih => rw [List.map_cons, List.flatten_cons, List.length_append, ih, List.length_cons]; show 4 + _ = _; omega
theorem outBytes_append (a b : List Int) : outBytes (a ++ b) = outBytes a ++ outBytes b := by simp [outBytes]
theorem outBytes_step (h : List Int) (k : Nat) (hk : k < h.length) : outBytes (h.take k) ++ wbytes (rd h k) = outBytes (h.take (k + 1)) := by
  rw [List.take_succ_eq_append_getElem hk, outBytes_append]
  congr 1
  simp [outBytes, rd, hk]
theorem reads_lit (W : World) (e : TypeId) (xs : List Int) (hm : xs.length ≤ 9223372036854775807) : ReadsInt (W.alloc (.cells (nums .u8 xs).toArray e)) .u8 (some ⟨W.heap.size, 0, none⟩) xs.length xs := by
  obtain ⟨A, c, h1, h2⟩ := own_reads (own_lit W W.heap.size e .u8 xs (Nat.le_refl _) hm)
  injection h1 with h1
  subst h1
  exact h2

set_option maxHeartbeats 400000 in
set_option maxRecDepth 100000 in
theorem sum_any (B : Nat) (g : Nat) (hs rest h0 rest0 : List Int) (n : Nat) (w : World) (hI : Strm 118 5 B w g hs rest n) (hsz : n ≤ 1099511627776) (hrest : rest.length < 64) (hmod : rest0.length % 64 = n % 64) (hn0 : n = 0 → h0 = IV ∧ rest0 = []) (hn1 : n ≠ 0 → h0 = hs ∧ rest0 = rest) (r : List Int × List Int) (hr : Hid (comp h0 (rest0 ++ pad n) = r)) :
    Calls Try.prog 93 #[.pointer (some ⟨g, 0, none⟩)] w fun e w' => e = .returned (.string (strOfNums (outBytes r.1))) ∧ Below w.heap.size w w' := by
  obtain ⟨v, hS, h8, hBg, hO⟩ := hI
  obtain ⟨A, c, rfl, hR⟩ := own_reads hO
  have HN0 := Lib.hid hn0
  have HN1 := Lib.hid hn1
  clear hn0 hn1
  go_enter Try.func93, Try.ntmps93
  go_wp2_with fail
  refine (initial_any _).mono ?_
  rintro e w1 ⟨rfl, hb1⟩
  have hS1 := blk_below hS hb1
  have hR1 := hR.below hb1
  have hsz1 := hb1.size
  have hnc := blk_alloc hS1 (.cells (ws IV) 116)
  have cn := strm_n hnc h8
  have cr := strm_rest hnc h8
  have hh := heap_alloc_new w1 (.cells (ws IV) 116)
  have hR2 := hR1.allocS (.cells (ws IV) 116)
  have hB2 := below_alloc hb1 (.cells (ws IV) 116)
  have hlt1 := blk_lt hS1
  go_upto_if 19 with (refine wpList_store_row rfl 116 (.tmp 3) (.tmp 10) rfl w1.heap.size (ws IV) rfl rfl 116 _ (heap_alloc_new w1 _) size_state rfl (ws_one _) ?_; rw [World.setRow_alloc_new])
  generalize w1.alloc (.cells (ws IV) 116) = w2 at hnc cn cr hh hR2 hB2 ⊢
  obtain ⟨gh, hgh⟩ : ∃ gh, gh = w1.heap.size := ⟨_, rfl⟩
  rw [← hgh] at hh hlt1 ⊢
  have hghB : w.heap.size ≤ gh := by omega
  have hAne : ∀ ad, A = some ad → 0 < rest.length → ad.block ≠ gh := fun ad e hn => by have := reads_lt hR ad e hn; omega
  clear hgh hS1 hR1 hsz1 hb1 hR hS hO
  go_cut [3, 4, 5] (fun s3 s4 s5 w' => ∃ v4 : Value, s3 = .pointer (some ⟨gh, 0, none⟩) ∧ s4 = v4 ∧ s5 = .int .i64 n ∧ w'.heap[gh]? = some (.cells (ws h0) 116 (0, 0)) ∧ h0.length = 8 ∧ w'.ownsRow w.heap.size 5 1 v4 rest0.length (nums .u8 rest0) ∧ rest0.length < 64 ∧ Below w.heap.size w w')
  case first =>
    by_cases hn : n = 0
    · obtain ⟨e1, e2⟩ := HN0.out hn
      subst e1 e2 hn
      go_wp2
      go_meet
      case rel => exact ⟨_, rfl, rfl, rfl, hh, rfl, own_nil _ _ _ _, by decide, hB2⟩
    · obtain ⟨e1, e2⟩ := HN1.out hn
      subst e1 e2
      have hn1 : decide (0 < n) = true := by simp; omega
      have hn2 : 0 < n := by omega
      obtain ⟨x0, x1, x2, x3, x4, x5, x6, x7, rfl⟩ := list8 h0 h8
      have c0 : w2.cell? ⟨g, 0, none⟩ = some (.int .u32 x0) := strm_cell hnc 0 (by simp)
      have d0 := (blk_cell hh 0).trans (ws_get IV 0 (by decide))
      have f0 := blk_frozen hh 0
      have c1 : w2.cell? ⟨g, 1, none⟩ = some (.int .u32 x1) := strm_cell hnc 1 (by simp)
      have d1 := (blk_cell hh 1).trans (ws_get IV 1 (by decide))
      have f1 := blk_frozen hh 1
      have c2 : w2.cell? ⟨g, 2, none⟩ = some (.int .u32 x2) := strm_cell hnc 2 (by simp)
      have d2 := (blk_cell hh 2).trans (ws_get IV 2 (by decide))
      have f2 := blk_frozen hh 2
      have c3 : w2.cell? ⟨g, 3, none⟩ = some (.int .u32 x3) := strm_cell hnc 3 (by simp)
      have d3 := (blk_cell hh 3).trans (ws_get IV 3 (by decide))
      have f3 := blk_frozen hh 3
      have c4 : w2.cell? ⟨g, 4, none⟩ = some (.int .u32 x4) := strm_cell hnc 4 (by simp)
      have d4 := (blk_cell hh 4).trans (ws_get IV 4 (by decide))
      have f4 := blk_frozen hh 4
      have c5 : w2.cell? ⟨g, 5, none⟩ = some (.int .u32 x5) := strm_cell hnc 5 (by simp)
      have d5 := (blk_cell hh 5).trans (ws_get IV 5 (by decide))
      have f5 := blk_frozen hh 5
      have c6 : w2.cell? ⟨g, 6, none⟩ = some (.int .u32 x6) := strm_cell hnc 6 (by simp)
      have d6 := (blk_cell hh 6).trans (ws_get IV 6 (by decide))
      have f6 := blk_frozen hh 6
      have c7 : w2.cell? ⟨g, 7, none⟩ = some (.int .u32 x7) := strm_cell hnc 7 (by simp)
      have d7 := (blk_cell hh 7).trans (ws_get IV 7 (by decide))
      have f7 := blk_frozen hh 7
      go_wp2
      go_region
      rw [setCells8]
      have hh3 := ws_setCells (hs' := [x0, x1, x2, x3, x4, x5, x6, x7]) hh rfl rfl
      have hnc3 := (setCells_far (u32s [x0, x1, x2, x3, x4, x5, x6, x7]) 0 (w := w2) g (show g ≠ gh by omega)).trans hnc
      have hR3 := reads_cells hR2 hAne (u32s [x0, x1, x2, x3, x4, x5, x6, x7]) 0
      have hB3 := below_cells hB2 hghB (u32s [x0, x1, x2, x3, x4, x5, x6, x7]) 0
      replace hh3 := blk_drew hh3
      replace hnc3 := blk_drew hnc3
      replace hR3 := reads_drew hR3
      replace hB3 := hB3.drew
      generalize (w2.setCells gh 0 (u32s [x0, x1, x2, x3, x4, x5, x6, x7])).drew = w3 at hh3 hnc3 hR3 hB3 ⊢
      clear cn cr hh hR2 hB2 hnc c0 c1 c2 c3 c4 c5 c6 c7 d0 d1 d2 d3 d4 d5 d6 d7 f0 f1 f2 f3 f4 f5 f6 f7
      have cr := strm_rest hnc3 h8
      have hBw : w.heap.size ≤ w3.heap.size := hB3.size
      go_wp2_with (at_builtin; refine print_append_row (w0 := w) w.heap.size rfl (.tmp 28) (.tmp 32) 24 5 .u8 1 rfl Try.underlying24 info_u8 (by decide) (.slice none 0 0) [] rest0 A rest0.length c rfl rfl (own_nil _ _ _ _) hR3 hB3 hBw (by simp; omega) ?_; intro v7 w7 hO7 hB7 hg7 hat7; simp only [List.nil_append] at hO7)
      go_meet
      case rel => exact ⟨_, rfl, rfl, rfl, blk_grown hh3 hg7 (by simp [Value.ownBlock]), rfl, hO7, hrest, hB7⟩
  case rest =>
    clear hnc cn cr hh hR2 hB2 HN0 HN1 hAne
    obtain ⟨v4, rfl, rfl, rfl, hh, hl8, hO, hr64, hB⟩ := hcut
    obtain ⟨A4, c4, rfl⟩ := own_slice hO
    have hBw : w.heap.size ≤ wc.heap.size := hB.size
    go_upto_block 0 with (at_builtin; refine print_append_num (w0 := w) w.heap.size rfl (.tmp 34) (.tmp 35) 24 5 .u8 1 rfl Try.underlying24 info_u8 (by decide) (.slice A4 rest0.length c4) rest0 128 rfl rfl hO hB hBw (by omega) ?_; intro v7 w7 hO7 hB7 hg7 hat7)
    have hh7 := blk_grown hh hg7 (fun e => own_apart hO hh (by decide) gh e.symm rfl)
    clear hO hB hg7 hat7 hBw hh
    go_cut [4] (fun s4 w' => ∃ v4 : Value, s4 = v4 ∧ w'.heap[gh]? = some (.cells (ws h0) 116 (0, 0)) ∧ w'.ownsRow w.heap.size 5 1 v4 (rest0 ++ 128 :: List.replicate (padZeros n) 0).length (nums .u8 (rest0 ++ 128 :: List.replicate (padZeros n) 0)) ∧ Below w.heap.size w w')
    case first =>
      go_wp2
      go_loopw [4] (fun s4 wr => ∃ (k : Nat) (v4 : Value), k ≤ padZeros n ∧ s4 = v4 ∧ wr.heap[gh]? = some (.cells (ws h0) 116 (0, 0)) ∧ wr.ownsRow w.heap.size 5 1 v4 (rest0 ++ 128 :: List.replicate k 0).length (nums .u8 (rest0 ++ 128 :: List.replicate k 0)) ∧ Below w.heap.size w wr)
        (fun s4 _ => 200 - slen s4)
      case atStart => exact ⟨0, v7, Nat.zero_le _, rfl, hh7, hO7, hB7⟩
      case round =>
        clear hh7 hO7 hB7
        obtain ⟨k, v4, hk, rfl, hh, hO, hB⟩ := hrel
        obtain ⟨A4, c4, rfl⟩ := own_slice hO
        have hpz : padZeros n = (119 - n % 64) % 64 := rfl
        have hll : (rest0 ++ 128 :: List.replicate k (0:Int)).length = rest0.length + 1 + k := by simp; omega
        by_cases hlt : k < padZeros n
        · have hne : (((rest0.length : Int) + 1 + k) % 64 != 56) = true := by simp; omega
          have hBw : w.heap.size ≤ wr.heap.size := hB.size
          have hll2 : (rest0 ++ 128 :: List.replicate k (0:Int)) ++ [0] = rest0 ++ 128 :: List.replicate (k + 1) 0 := by simp [List.replicate_succ']
          generalize hx : (rest0 ++ 128 :: List.replicate k (0:Int)) = xs at *
          clear hx
          go_wp2_with (at_builtin; refine print_append_num (w0 := w) w.heap.size rfl (.tmp 41) (.tmp 42) 24 5 .u8 1 rfl Try.underlying24 info_u8 (by decide) (.slice A4 xs.length c4) xs 0 rfl rfl hO hB hBw (by omega) ?_; intro v7 w7 hO7 hB7 hg7 hat7; rw [hll2] at hO7)
          go_roundw
          case rel => exact ⟨k + 1, _, by omega, rfl, blk_grown hh hg7 (fun e => own_apart hO hh (by decide) gh e.symm rfl), hO7, hB7⟩
          case measure => 
            obtain ⟨A9, c9, rfl⟩ := own_slice hO7
            rw [← hll2]; simp [slen]; omega
        · have hkk : k = padZeros n := by omega
          subst hkk
          have hne : (((rest0.length : Int) + 1 + (padZeros n : Nat)) % 64 != 56) = false := by simp; omega
          go_wp2
          go_meet
          case rel => exact ⟨_, rfl, hh, hO, hB⟩
    case rest =>
      clear hh7 hO7 hB7
      obtain ⟨v4, rfl, hh, hO, hB⟩ := hcut
      go_upto_block 2 with fail
      go_cut [4] (fun s4 w' => ∃ v4 : Value, s4 = v4 ∧ w'.heap[gh]? = some (.cells (ws h0) 116 (0, 0)) ∧ w'.ownsRow w.heap.size 5 1 v4 (rest0 ++ pad n).length (nums .u8 (rest0 ++ pad n)) ∧ Below w.heap.size w w')
      case first =>
        have hp0 : (rest0 ++ 128 :: List.replicate (padZeros n) (0:Int)) = (rest0 ++ 128 :: List.replicate (padZeros n) (0:Int)) ++ (lenBytes n).take 0 := by simp
        have hp1 : rest0 ++ pad n = (rest0 ++ 128 :: List.replicate (padZeros n) (0:Int)) ++ (lenBytes n).take 8 := by simp [pad, lenBytes]
        have hpz : padZeros n = (119 - n % 64) % 64 := rfl
        have hll : (rest0 ++ 128 :: List.replicate (padZeros n) (0:Int)).length = rest0.length + 1 + padZeros n := by simp; omega
        rw [hp0] at hO
        generalize (rest0 ++ 128 :: List.replicate (padZeros n) (0:Int)) = ys at *
        clear hp0
        go_wp2
        go_loopw [4, 6] (fun s4 i wr => ∃ (k : Nat) (v4 : Value), k ≤ 8 ∧ s4 = v4 ∧ i = .int .i64 (7 - (k : Int)) ∧ wr.heap[gh]? = some (.cells (ws h0) 116 (0, 0)) ∧ wr.ownsRow w.heap.size 5 1 v4 (ys ++ (lenBytes n).take k).length (nums .u8 (ys ++ (lenBytes n).take k)) ∧ Below w.heap.size w wr)
          (fun _ i _ => (intOf i + 1).toNat)
        case atStart => exact ⟨0, _, Nat.zero_le _, rfl, rfl, hh, hO, hB⟩
        case round =>
          clear hh hO hB
          obtain ⟨k, v4, hk, rfl, rfl, hh, hO, hB⟩ := hrel
          obtain ⟨A4, c4, rfl⟩ := own_slice hO
          by_cases hlt : k < 8
          · have hBw : w.heap.size ≤ wr.heap.size := hB.size
            have hll2 : (ys ++ (lenBytes n).take k) ++ [(n : Int) * 8 / 2 ^ (8 * (7 - k)) % 256] = ys ++ (lenBytes n).take (k + 1) := by rw [lenBytes_step n k hlt, List.append_assoc]
            have hll3 : (ys ++ (lenBytes n).take k).length ≤ ys.length + k := by simp; omega
            generalize (ys ++ (lenBytes n).take k) = xs at *
            go_wp2_with (at_builtin; refine print_append_num (w0 := w) w.heap.size rfl (.tmp 48) (.tmp 57) 24 5 .u8 1 rfl Try.underlying24 info_u8 (by decide) (.slice A4 xs.length c4) xs _ rfl rfl hO hB hBw (by omega) ?_; intro v7 w7 hO7 hB7 hg7 hat7; rw [hll2] at hO7)
            go_roundw
            case rel => exact ⟨k + 1, _, by omega, rfl, by go_num, blk_grown hh hg7 (fun e => own_apart hO hh (by decide) gh e.symm rfl), hO7, hB7⟩
            case measure => simp [intOf]; omega
          · have hk8 : k = 8 := by omega
            subst hk8
            go_wp2
            go_meet
            case rel => exact ⟨_, rfl, hh, by rw [hp1]; exact hO, hB⟩
      case rest =>
        clear hh hO hB
        obtain ⟨v4, rfl, hh, hO, hB⟩ := hcut
        go_upto_block 4 with fail
        have hl64 : (rest0 ++ pad n).length % 64 = 0 := by
          have hpz : padZeros n = (119 - n % 64) % 64 := rfl
          simp only [pad, lenBytes, List.length_append, List.length_cons, List.length_replicate, List.length_nil]
          omega
        have hlm : (rest0 ++ pad n).length ≤ 200 := by
          have hpz : padZeros n = (119 - n % 64) % 64 := rfl
          simp only [pad, lenBytes, List.length_append, List.length_cons, List.length_replicate, List.length_nil]
          omega
        obtain ⟨A4, c4, rfl, hR4⟩ := own_reads hO
        have hc4 := (own_cap hO).2
        have hA4 : ∀ ad, A4 = some ad → 0 < (rest0 ++ pad n).length → ad.block ≠ gh := fun ad e _ => own_apart hO hh (by decide) _ (own_block hO ad e)
        clear hO
        generalize (rest0 ++ pad n) = zs at *
        go_cut [4] (fun s4 w' => w'.heap[gh]? = some (.cells (ws r.1) 116 (0, 0)) ∧ r.1.length = 8 ∧ Below w.heap.size w w')
        case first =>
          go_wp2
          go_loopw [4] (fun s4 wr => ∃ (A : Option Addr) (c : Nat) (xs hc : List Int), s4 = .slice A xs.length c ∧ xs.length ≤ c ∧ xs.length ≤ 200 ∧ xs.length % 64 = 0 ∧ ReadsInt wr .u8 A xs.length xs ∧ (∀ ad, A = some ad → 0 < xs.length → ad.block ≠ gh) ∧ hc.length = 8 ∧ Hid (comp hc xs = r) ∧ wr.heap[gh]? = some (.cells (ws hc) 116 (0, 0)) ∧ Below w.heap.size w wr)
            (fun s4 _ => slen s4)
          case atStart => exact ⟨A4, c4, zs, h0, rfl, hc4, hlm, hl64, hR4, hA4, hl8, hr, hh, hB⟩
          case round =>
            clear hh hB hR4 hA4 hc4 hlm hl64 hl8 hr
            obtain ⟨A, c, xs, hc, rfl, hmc, hm, hm64, hR, hA, hl8, hr, hS, hB⟩ := hrel
            by_cases h64 : 0 < xs.length
            · replace h64 : 64 ≤ xs.length := by omega
              obtain ⟨ab, off, rfl, hab, hcell⟩ := reads_plain hR (by omega)
              obtain ⟨hcut, -, -⟩ := print_take_of (P := Try.prog) (Value.int .u8) (0 : Int) 24 5 .i64 Try.underlying24 info_u8i (by rfl) (some ⟨ab, off, none⟩) c xs 64 (by omega) (by omega) hmc
              have hl64 : (xs.take (64 : Int).toNat).length = 64 := by rw [List.length_take]; show min 64 xs.length = 64; omega
              rw [hl64] at hcut
              obtain ⟨A', hcut2, hread2, hblk2⟩ := cut_block (P := Try.prog) 24 5 .i64 Try.underlying24 info_u8i (by rfl) (some ⟨ab, off, none⟩) xs.length c 64 (by omega)
              have HRD := Lib.hid hread2
              have HBK := Lib.hid hblk2
              clear hread2 hblk2
              rw [show ((64 : Nat) : Int) = 64 from rfl] at hcut2
              obtain ⟨x0, x1, x2, x3, x4, x5, x6, x7, rfl⟩ := list8 hc hl8
              have hS' : wr.drew.heap[gh]? = some (.cells (ws [x0, x1, x2, x3, x4, x5, x6, x7]) 116 (0, 0)) := hS
              have hB' : Below w.heap.size w wr.drew := hB.drew
              have hcell' : ∀ j, j < 64 → wr.drew.cell? ⟨ab, off + j, none⟩ = some (.int .u8 (rd (xs.take 64) j)) := fun j hj => by rw [rd_take xs 64 j hj]; exact hcell j (by omega)
              have hR' : ReadsInt wr.drew .u8 (some ⟨ab, off, none⟩) xs.length xs := hR
              have hab' : ab < wr.drew.heap.size := hab
              have hBs : w.heap.size ≤ wr.drew.heap.size := hB'.size
              have c0 : wr.cell? ⟨gh, 0, none⟩ = some (.int .u32 x0) := (blk_cell hS 0).trans (ws_get _ 0 (by simp))
              have f0 := blk_frozen hS 0
              have c1 : wr.cell? ⟨gh, 1, none⟩ = some (.int .u32 x1) := (blk_cell hS 1).trans (ws_get _ 1 (by simp))
              have f1 := blk_frozen hS 1
              have c2 : wr.cell? ⟨gh, 2, none⟩ = some (.int .u32 x2) := (blk_cell hS 2).trans (ws_get _ 2 (by simp))
              have f2 := blk_frozen hS 2
              have c3 : wr.cell? ⟨gh, 3, none⟩ = some (.int .u32 x3) := (blk_cell hS 3).trans (ws_get _ 3 (by simp))
              have f3 := blk_frozen hS 3
              have c4 : wr.cell? ⟨gh, 4, none⟩ = some (.int .u32 x4) := (blk_cell hS 4).trans (ws_get _ 4 (by simp))
              have f4 := blk_frozen hS 4
              have c5 : wr.cell? ⟨gh, 5, none⟩ = some (.int .u32 x5) := (blk_cell hS 5).trans (ws_get _ 5 (by simp))
              have f5 := blk_frozen hS 5
              have c6 : wr.cell? ⟨gh, 6, none⟩ = some (.int .u32 x6) := (blk_cell hS 6).trans (ws_get _ 6 (by simp))
              have f6 := blk_frozen hS 6
              have c7 : wr.cell? ⟨gh, 7, none⟩ = some (.int .u32 x7) := (blk_cell hS 7).trans (ws_get _ 7 (by simp))
              have f7 := blk_frozen hS 7
              have HS := Lib.hid hS'
              have HB := Lib.hid hB'
              have HC := Lib.hid hcell'
              have HR := Lib.hid hR'
              clear hS' hB' hcell' hR'
              go_wp2
              go_region_with (first | (go_at_call 95; refine (block_lit (blockF_len _ _ rfl) (block_any x0 x1 x2 x3 x4 x5 x6 x7 (xs.take 64) ab off 64 c _ (by omega) (by omega) HC.out hab')).mono ?_; rintro e w6 ⟨y0, y1, y2, y3, y4, y5, y6, y7, rfl, HY, hb6⟩; have hS6 := blk_below HS.out hb6; have e0 : w6.cell? ⟨gh, 0, none⟩ = some (.int .u32 x0) := (blk_cell hS6 0).trans (ws_get _ 0 (by simp)); have g0 := blk_frozen hS6 0; have e1 : w6.cell? ⟨gh, 1, none⟩ = some (.int .u32 x1) := (blk_cell hS6 1).trans (ws_get _ 1 (by simp)); have g1 := blk_frozen hS6 1; have e2 : w6.cell? ⟨gh, 2, none⟩ = some (.int .u32 x2) := (blk_cell hS6 2).trans (ws_get _ 2 (by simp)); have g2 := blk_frozen hS6 2; have e3 : w6.cell? ⟨gh, 3, none⟩ = some (.int .u32 x3) := (blk_cell hS6 3).trans (ws_get _ 3 (by simp)); have g3 := blk_frozen hS6 3; have e4 : w6.cell? ⟨gh, 4, none⟩ = some (.int .u32 x4) := (blk_cell hS6 4).trans (ws_get _ 4 (by simp)); have g4 := blk_frozen hS6 4; have e5 : w6.cell? ⟨gh, 5, none⟩ = some (.int .u32 x5) := (blk_cell hS6 5).trans (ws_get _ 5 (by simp)); have g5 := blk_frozen hS6 5; have e6 : w6.cell? ⟨gh, 6, none⟩ = some (.int .u32 x6) := (blk_cell hS6 6).trans (ws_get _ 6 (by simp)); have g6 := blk_frozen hS6 6; have e7 : w6.cell? ⟨gh, 7, none⟩ = some (.int .u32 x7) := (blk_cell hS6 7).trans (ws_get _ 7 (by simp)); have g7 := blk_frozen hS6 7))
              rw [setCells8]
              have hneg := hA _ rfl (by omega)
              have hS7 := ws_setCells (hs' := [y0, y1, y2, y3, y4, y5, y6, y7]) hS6 rfl rfl
              have hR7 := reads_cells (HR.out.below hb6) (g := gh) (fun ad e _ => by injection e with e; subst e; exact hneg) (u32s [y0, y1, y2, y3, y4, y5, y6, y7]) 0
              have hB7 := below_cells (below_weaken_at HB.out hb6 hBs) hghB (u32s [y0, y1, y2, y3, y4, y5, y6, y7]) 0
              have hr7 := Lib.hid (show comp [y0, y1, y2, y3, y4, y5, y6, y7] (xs.drop 64) = r by rw [← HY.out, ← comp_more _ _ h64]; exact hr.out)
              generalize w6.setCells gh 0 (u32s [y0, y1, y2, y3, y4, y5, y6, y7]) = w7 at hS7 hR7 hB7 ⊢
              have hd := List.length_drop (l := xs) (i := 64)
              have HR7 := Lib.hid hR7
              clear hS6 e0 e1 e2 e3 e4 e5 e6 e7 g0 g1 g2 g3 g4 g5 g6 g7 c0 c1 c2 c3 c4 c5 c6 c7 f0 f1 f2 f3 f4 f5 f6 f7 HS HB HC HR HY hb6 hr hS hR hB hR7
              go_wp2
              go_roundw
              case rel => exact ⟨A', _, xs.drop 64, [y0, y1, y2, y3, y4, y5, y6, y7], by rw [hd], by omega, by omega, by omega, by rw [hd]; exact HRD.out _ _ _ hmc HR7.out, fun ad e _ => by obtain ⟨ad0, e0, e1⟩ := HBK.out ad e; injection e0 with e0; rw [e1, ← e0]; exact hneg, rfl, hr7, hS7, hB7⟩
              case measure => simp only [slen]; omega
            · have hxs : xs.length < 64 := by omega
              have hr1 := hr.out
              rw [comp_done _ _ hxs] at hr1
              subst hr1
              clear hr
              go_wp2
              go_meet
              case rel => exact ⟨hS, hl8, hB⟩
        case rest =>
          clear hh hB hR4 hA4 hc4 hlm hl64 hl8 hr
          obtain ⟨hh, hl8, hB⟩ := hcut
          obtain ⟨hc, hhc⟩ : ∃ hc, Hid (hc = r.1) := ⟨_, Lib.hid rfl⟩
          rw [← hhc.out] at hh hl8
          go_upto_block 6 with (refine wpList_load_row rfl 116 (.tmp 3) rfl gh rfl 116 _ (0, 0) _ hh Try.underlying116 rfl (size_state.trans (congrArg some ((ws_size _).trans hl8).symm)) ?_)
          clear hh
          go_cut [7] (fun s7 w' => ∃ v7 : Value, s7 = v7 ∧ w'.ownsRow w.heap.size 5 1 v7 (outBytes hc).length (nums .u8 (outBytes hc)) ∧ Below w.heap.size w w')
          case first =>
            go_wp2
            go_loopw [7, 9, 69] (fun s7 _ i wr => ∃ (k : Nat) (v7 : Value), k ≤ 8 ∧ s7 = v7 ∧ i = .int .i64 k ∧ wr.ownsRow w.heap.size 5 1 v7 (outBytes (hc.take k)).length (nums .u8 (outBytes (hc.take k))) ∧ Below w.heap.size w wr)
              (fun _ _ i _ => (8 - intOf i).toNat)
            case atStart => exact ⟨0, _, Nat.zero_le _, rfl, rfl, own_nil _ _ _ _, hB⟩
            case round =>
              clear hB
              obtain ⟨k, v7, hk, rfl, rfl, hO, hB⟩ := hrel
              obtain ⟨A7, c7, rfl⟩ := own_slice hO
              by_cases hlt : k < 8
              · have q0 : (k : Int) < 8 := by omega
                have hg := index_state hc hl8 k hlt
                have hBw : w.heap.size ≤ wr.heap.size := hB.size
                have hll3 : (outBytes (hc.take k)).length ≤ 32 := by rw [outBytes_len, List.length_take]; omega
                have hll2 : outBytes (hc.take k) ++ wbytes (rd hc k) = outBytes (hc.take (k + 1)) := outBytes_step hc k (by omega)
                generalize (outBytes (hc.take k)) = xs at *
                generalize rd hc k = y at *
                have HL := reads_lit wr 5 (wbytes y) (by simp [wbytes])
                go_wp2_with (at_builtin; refine print_append_row (w0 := w) w.heap.size rfl (.tmp 72) (.tmp 84) 24 5 .u8 1 rfl Try.underlying24 info_u8 (by decide) (.slice A7 xs.length c7) xs (wbytes y) _ 4 4 rfl rfl (hO.alloc _) HL (hB.alloc hBw _) (by simp; omega) (by omega) ?_; intro v7 w7 hO7 hB7 hg7 hat7; rw [hll2] at hO7)
                go_roundw
                case rel => exact ⟨k + 1, _, by omega, rfl, by go_num, hO7, hB7⟩
                case measure => simp [intOf]; omega
              · have hk8 : k = 8 := by omega
                subst hk8
                go_wp2
                go_meet
                case rel => exact ⟨_, rfl, by rw [List.take_of_length_le (by omega)] at hO ⊢; exact hO, hB⟩
          case rest =>
            clear hB
            obtain ⟨v7, rfl, hO, hB⟩ := hcut
            have hcv := own_string (P := Try.prog) Try.underlying24 Try.underlying5 Try.underlying9 hO
            go_wp2
            go_ret
            exact ⟨by rw [← hhc.out]; rfl, hB⟩
end Go.Proofs.Ytilehfdplgciiaa.Hand
