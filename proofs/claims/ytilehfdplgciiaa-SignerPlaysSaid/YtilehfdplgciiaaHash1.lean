import Derived.Test.YtilehfdplgciiaaProg
import Derived.Test.YtilehfdplgciiaaSha
import Derived.Test.YtilehfdplgciiaaHash0
import Derived.Deep.WholeRow
import Derived.WalkKit
import Derived.KernelRfl
import Derived.Outline
import Derived.StillTailTactics
import Derived.BigRegion
import Derived.BigQuiet
import Derived.Deep.QuietTactic
import Derived.Lib.Hide
import Derived.Laws.CopyOwn
import Derived.Deep.DeepCutAuto
namespace Go.Proofs.Ytilehfdplgciiaa.Hand
open Go.RowKit Go.Proofs.YtilehfdplgciiaaW.PrintWords
set_option linter.unusedVariables false

theorem size_state : (Try.prog.info? 116).map (·.size) = some 8 := by kernel_rfl
theorem turn_any (x n : Int) (w : World) (h0 : 0 ≤ n) (h1 : n ≤ 32) :
    Calls Try.prog 96 #[.int .u32 x, .int .u64 n] w fun e w' => e = .returned (.int .u32 (rotr x n)) ∧ w' = w := by
  go_enter Try.func96, Try.ntmps96
  go_wp2
  go_ret
  exact ⟨rfl, rfl⟩

set_option maxHeartbeats 1000000 in
set_option maxRecDepth 100000 in
theorem block_any (h0 h1 h2 h3 h4 h5 h6 h7 : Int) (b : List Int) (ab off n c : Nat) (w : World) (hn : 64 ≤ n) (hn2 : n ≤ 140737488351232)
    (hb : ∀ j, j < 64 → w.cell? ⟨ab, off + j, none⟩ = some (.int .u8 (rd b j))) (hbb : ab < w.heap.size) :
    Calls Try.prog 95 #[.agg #[.int .u32 h0, .int .u32 h1, .int .u32 h2, .int .u32 h3, .int .u32 h4, .int .u32 h5, .int .u32 h6, .int .u32 h7], .slice (some ⟨ab, off, none⟩) n c] w fun e w' => e = .returned (.agg (ws (blockF [h0, h1, h2, h3, h4, h5, h6, h7] b))) ∧ Below w.heap.size w w' := by
  have Hb := Lib.hid hb
  clear hb
  go_enter Try.func95, Try.ntmps95
  go_upto_block 0 with fail
  go_cut [5] (fun s5 w' => s5 = .pointer (some ⟨w.heap.size + 1 + 1, 0, none⟩) ∧ w'.heap[w.heap.size + 1 + 1]? = some (.cells (ws (W2 b 0)) 111 (0, 0)) ∧ Hd 116 w.heap.size w' [h0, h1, h2, h3, h4, h5, h6, h7] ∧ Below w.heap.size w w')
  case first =>
    --{
    as_aux_lemma =>
    go_wp2
    go_loopw [6] (fun i wr => ∃ k : Nat, k ≤ 16 ∧ i = .int .i64 k ∧ wr.heap[w.heap.size + 1 + 1]? = some (.cells (ws (W1 b k)) 111 (0, 0))
        ∧ Hd 116 w.heap.size wr [h0, h1, h2, h3, h4, h5, h6, h7]
        ∧ Below w.heap.size w wr)
      (fun i _ => 16 - (intOf i).toNat)
    case atStart =>
      refine ⟨0, Nat.zero_le _, rfl, ?_, ?_, ?_⟩
      · rw [show W1 b 0 = zeros64 from rfl, ← lit64]; exact blk_newAt _ _ _ (by simp)
      · exact ⟨blk_alloc (blk_alloc (blk_new _ _) _) _, blk_alloc (blk_newAt _ _ _ (by simp)) _⟩
      · exact below_alloc (below_alloc (below_alloc (Below.refl _ _) _) _) _
    case round =>
      obtain ⟨k, hk, rfl, hW, hH, hB⟩ := hrel
      by_cases hlt : k < 16
      · as_aux_lemma =>
        have e0 : wr.cell? ⟨ab, off + 4 * k, none⟩ = some (.int .u8 (rd b (4 * k))) := (hB.cell hbb).trans (Hb.out _ (by omega))
        have e1 : wr.cell? ⟨ab, off + (4 * k + 1), none⟩ = some (.int .u8 (rd b (4 * k + 1))) := (hB.cell hbb).trans (Hb.out _ (by omega))
        have e2 : wr.cell? ⟨ab, off + (4 * k + 2), none⟩ = some (.int .u8 (rd b (4 * k + 2))) := (hB.cell hbb).trans (Hb.out _ (by omega))
        have e3 : wr.cell? ⟨ab, off + (4 * k + 3), none⟩ = some (.int .u8 (rd b (4 * k + 3))) := (hB.cell hbb).trans (Hb.out _ (by omega))
        obtain ⟨y0, hy0⟩ : ∃ y, y = rd b (4 * k) := ⟨_, rfl⟩
        obtain ⟨y1, hy1⟩ : ∃ y, y = rd b (4 * k + 1) := ⟨_, rfl⟩
        obtain ⟨y2, hy2⟩ : ∃ y, y = rd b (4 * k + 2) := ⟨_, rfl⟩
        obtain ⟨y3, hy3⟩ : ∃ y, y = rd b (4 * k + 3) := ⟨_, rfl⟩
        rw [← hy0] at e0
        rw [← hy1] at e1
        rw [← hy2] at e2
        rw [← hy3] at e3
        have HN := Lib.hid (show (W1 b k).set k (word y0 y1 y2 y3) = W1 b (k + 1) by rw [hy0, hy1, hy2, hy3]; rfl)
        clear hy0 hy1 hy2 hy3
        go_wp2
        have f0 := blk_frozen hW k
        have f1 := (blk_cell hW k).trans (ws_get _ _ (by rw [W1_len]; omega))
        have s0 : IntKind.i64.wrap (4 * (k : Int)) = 4 * k := IntWalk.i64_in _ (by omega)
        have s1 : IntKind.i64.wrap (4 * (k : Int) + 1) = 4 * k + 1 := IntWalk.i64_in _ (by omega)
        have s2 : IntKind.i64.wrap (4 * (k : Int) + 2) = 4 * k + 2 := IntWalk.i64_in _ (by omega)
        have s3 : IntKind.i64.wrap (4 * (k : Int) + 3) = 4 * k + 3 := IntWalk.i64_in _ (by omega)
        have p0 : 0 ≤ 4 * (k : Int) := by omega
        have p1 : 0 ≤ 4 * (k : Int) + 1 := by omega
        have p2 : 0 ≤ 4 * (k : Int) + 2 := by omega
        have p3 : 0 ≤ 4 * (k : Int) + 3 := by omega
        have q0 : 4 * (k : Int) < n := by omega
        have q1 : 4 * (k : Int) + 1 < n := by omega
        have q2 : 4 * (k : Int) + 2 < n := by omega
        have q3 : 4 * (k : Int) + 3 < n := by omega
        have t0 : (4 * (k : Int)).toNat = 4 * k := by omega
        have t1 : (4 * (k : Int) + 1).toNat = 4 * k + 1 := by omega
        have t2 : (4 * (k : Int) + 2).toNat = 4 * k + 2 := by omega
        have t3 : (4 * (k : Int) + 3).toNat = 4 * k + 3 := by omega
        have r0 : (k : Int) < 64 := by omega
        go_still_tail 35, (by kernel_rfl)
        clear s0 s1 s2 s3 p0 p1 p2 p3 q0 q1 q2 q3 t0 t1 t2 t3 r0
        change wpList _ _ _ _ _ wr.drew
        go_wp2
        go_roundw
        case rel => exact ⟨k + 1, by omega, by go_num, (blk_put hW k _ ((ws_set _ _ _).trans (congrArg ws HN.out)) :), Hd.drew (hH.far (by omega) _), below_drew1 (below_set hB (by omega))⟩
        case measure => simp [intOf]; omega
      · have hk16 : k = 16 := by omega
        rw [show W1 b k = W2 b 0 by rw [hk16]; rfl] at hW
        clear hk16
        go_wp2
        go_meet
        case rel => exact ⟨rfl, hW, hH, hB⟩
    --}
  case rest =>
    obtain ⟨rfl, hW, hH, hB⟩ := hcut
    go_upto_block 2 with fail
    go_cut [5] (fun s5 w' => s5 = .pointer (some ⟨w.heap.size + 1 + 1, 0, none⟩) ∧ w'.heap[w.heap.size + 1 + 1]? = some (.cells (ws (W2 b 48)) 111 (0, 0)) ∧ Hd 116 w.heap.size w' [h0, h1, h2, h3, h4, h5, h6, h7] ∧ Below w.heap.size w w')
    case first =>
      --{
      as_aux_lemma =>
      go_wp2
      go_loopw [7, 8, 9] (fun i _ _ wr => ∃ k : Nat, k ≤ 48 ∧ i = .int .i64 (16 + (k : Int)) ∧ wr.heap[w.heap.size + 1 + 1]? = some (.cells (ws (W2 b k)) 111 (0, 0))
          ∧ Hd 116 w.heap.size wr [h0, h1, h2, h3, h4, h5, h6, h7]
          ∧ Below w.heap.size w wr)
        (fun i _ _ _ => 64 - (intOf i).toNat)
      case atStart => exact ⟨0, Nat.zero_le _, rfl, hW, hH, hB⟩
      case round =>
        clear hW hH hB
        obtain ⟨k, hk, rfl, hW, hH, hB⟩ := hrel
        by_cases hlt : k < 48
        · as_aux_lemma =>
          have c15 := (blk_cell hW (k + 1)).trans (ws_get _ _ (by rw [W2_len]; omega))
          have c2 := (blk_cell hW (k + 14)).trans (ws_get _ _ (by rw [W2_len]; omega))
          have c16 := (blk_cell hW k).trans (ws_get _ _ (by rw [W2_len]; omega))
          have c7 := (blk_cell hW (k + 9)).trans (ws_get _ _ (by rw [W2_len]; omega))
          have ci := (blk_cell hW (16 + k)).trans (ws_get _ _ (by rw [W2_len]; omega))
          obtain ⟨x15, hx15⟩ : ∃ y, y = rd (W2 b k) ((k + 1 : Nat) : Int) := ⟨_, rfl⟩
          obtain ⟨x2, hx2⟩ : ∃ y, y = rd (W2 b k) ((k + 14 : Nat) : Int) := ⟨_, rfl⟩
          obtain ⟨x16, hx16⟩ : ∃ y, y = rd (W2 b k) ((k : Nat) : Int) := ⟨_, rfl⟩
          obtain ⟨x7, hx7⟩ : ∃ y, y = rd (W2 b k) ((k + 9 : Nat) : Int) := ⟨_, rfl⟩
          obtain ⟨xi, hxi⟩ : ∃ y, y = rd (W2 b k) ((16 + k : Nat) : Int) := ⟨_, rfl⟩
          rw [← hx15] at c15
          rw [← hx2] at c2
          rw [← hx16] at c16
          rw [← hx7] at c7
          rw [← hxi] at ci
          have HN := Lib.hid (show (W2 b k).set (16 + k) ((x16 + sg0 x15 + x7 + sg1 x2) % 4294967296) = W2 b (k + 1) by
            rw [hx15, hx2, hx16, hx7]
            show _ = (W2 b k).set (16 + k) (mix (W2 b k) (16 + k))
            unfold mix
            rw [show (16 + (k : Int) - 16) = (k : Int) by omega, show (16 + (k : Int) - 15) = ((k + 1 : Nat) : Int) by omega, show (16 + (k : Int) - 7) = ((k + 9 : Nat) : Int) by omega, show (16 + (k : Int) - 2) = ((k + 14 : Nat) : Int) by omega])
          clear hx15 hx2 hx16 hx7 hxi
          go_wp2
          have s15 : IntKind.i64.wrap (16 + (k : Int) - 15) = k + 1 := (IntWalk.i64_in _ (by omega)).trans (by omega)
          have s2 : IntKind.i64.wrap (16 + (k : Int) - 2) = k + 14 := (IntWalk.i64_in _ (by omega)).trans (by omega)
          have s16 : IntKind.i64.wrap (16 + (k : Int) - 16) = k := (IntWalk.i64_in _ (by omega)).trans (by omega)
          have s7 : IntKind.i64.wrap (16 + (k : Int) - 7) = k + 9 := (IntWalk.i64_in _ (by omega)).trans (by omega)
          have p1 : 0 ≤ (k : Int) + 1 := by omega
          have p14 : 0 ≤ (k : Int) + 14 := by omega
          have p9 : 0 ≤ (k : Int) + 9 := by omega
          have p16 : 0 ≤ 16 + (k : Int) := by omega
          have q1 : (k : Int) + 1 < 64 := by omega
          have q14 : (k : Int) + 14 < 64 := by omega
          have q9 : (k : Int) + 9 < 64 := by omega
          have q16 : 16 + (k : Int) < 64 := by omega
          have q0 : (k : Int) < 64 := by omega
          have t1 : ((k : Int) + 1).toNat = k + 1 := by omega
          have t14 : ((k : Int) + 14).toNat = k + 14 := by omega
          have t9 : ((k : Int) + 9).toNat = k + 9 := by omega
          have t16 : (16 + (k : Int)).toNat = 16 + k := by omega
          go_quiet ((go_at_call 96; exact Calls.quiet_of_same (turn_any _ _ _ (by decide) (by decide))))
          obtain ⟨w2, hw2⟩ : ∃ w2 : World, w2 = wr.drewN nq := ⟨_, rfl⟩
          replace hW := drewN_heap hw2 hW
          replace hH := Hd.drewE hw2 hH
          replace hB := drewN_below hw2 hB
          replace c2 := drewN_cell hw2 c2
          replace c7 := drewN_cell hw2 c7
          replace c16 := drewN_cell hw2 c16
          replace ci := drewN_cell hw2 ci
          rw [← hw2]
          clear hw2 c15
          go_wp2
          go_quiet ((go_at_call 96; exact Calls.quiet_of_same (turn_any _ _ _ (by decide) (by decide))))
          obtain ⟨w3, hw3⟩ : ∃ w3 : World, w3 = w2.drewN nq := ⟨_, rfl⟩
          replace hW := drewN_heap hw3 hW
          replace hH := Hd.drewE hw3 hH
          replace hB := drewN_below hw3 hB
          replace c7 := drewN_cell hw3 c7
          replace c16 := drewN_cell hw3 c16
          replace ci := drewN_cell hw3 ci
          rw [← hw3]
          clear hw3 c2
          have f0 := blk_frozen hW (16 + k)
          go_wp2
          go_still_tail 15, (by kernel_rfl)
          clear s15 s2 s16 s7 p1 p14 p9 p16 q1 q14 q9 q16 q0 t1 t14 t9 t16
          change wpList _ _ _ _ _ w3.drew
          go_wp2
          go_roundw
          case rel => exact ⟨k + 1, by omega, by go_num, (blk_put hW (16 + k) _ ((ws_set _ _ _).trans (congrArg ws HN.out)) :), Hd.drew (hH.far (by omega) _), below_drew1 (below_set hB (by omega))⟩
          case measure => simp [intOf]; omega
        · have hk48 : k = 48 := by omega
          rw [hk48] at hW
          clear hk48
          go_wp2
          go_meet
          case rel => exact ⟨rfl, hW, hH, hB⟩
      --}
    case rest =>
      obtain ⟨rfl, hW, hH, hB⟩ := hcut
      go_wp2_with fail
      refine (rounds_any _).mono ?_
      rintro e w1 ⟨rfl, hb1⟩
      replace hW := blk_below hW hb1
      replace hH := hH.below hb1
      replace hB := below_step hB hb1
      clear hb1
      go_upto_block 4 with (first | (refine wpList_store_row rfl 111 _ _ rfl w1.heap.size (ws K64) rfl rfl 111 _ (heap_alloc_new w1 _) (by kernel_rfl) (by kernel_rfl) (ws_one _) ?_; rw [World.setRow_alloc_new]) | (refine wpList_load_row rfl 116 _ rfl w.heap.size rfl 116 _ (0, 0) _ (blk_alloc hH.1 _) Try.underlying116 rfl (by kernel_rfl) ?_) | (refine wpList_store_row rfl 116 _ _ rfl (w1.heap.size + 1) (ws [h0, h1, h2, h3, h4, h5, h6, h7]) rfl rfl 116 _ (blk_newAt _ _ _ (by simp)) (by kernel_rfl) (by kernel_rfl) (ws_one _) ?_; rw [setRow_allocAt _ _ _ _ _ (by simp)]))
      have hne := hB.size
      have hltW := blk_lt hW
      have hltH := blk_lt hH.1
      go_cut [11] (fun s11 w' => s11 = .pointer (some ⟨w1.heap.size + 1, 0, none⟩) ∧ w'.heap[w1.heap.size + 1]? = some (.cells (ws (R3 [h0, h1, h2, h3, h4, h5, h6, h7] (W2 b 48) 64)) 116 (0, 0)) ∧ Hd 116 w.heap.size w' [h0, h1, h2, h3, h4, h5, h6, h7] ∧ Below w.heap.size w w')
      case first =>
        --{
        go_wp2
        go_loopw [12, 13, 14, 15, 16, 17] (fun i _ _ _ _ _ wr => ∃ k : Nat, k ≤ 64 ∧ i = .int .i64 k ∧ wr.heap[w1.heap.size + 1]? = some (.cells (ws (R3 [h0, h1, h2, h3, h4, h5, h6, h7] (W2 b 48) k)) 116 (0, 0))
            ∧ wr.heap[w1.heap.size]? = some (.cells (ws K64) 111 (0, 0)) ∧ wr.heap[w.heap.size + 1 + 1]? = some (.cells (ws (W2 b 48)) 111 (0, 0))
            ∧ Hd 116 w.heap.size wr [h0, h1, h2, h3, h4, h5, h6, h7] ∧ Below w.heap.size w wr)
          (fun i _ _ _ _ _ _ => 64 - (intOf i).toNat)
        case atStart => exact ⟨0, Nat.zero_le _, rfl, blk_newAt _ _ _ (by simp), blk_alloc (blk_new _ _) _, blk_alloc (blk_alloc hW _) _, (hH.alloc _).alloc _, below_alloc (below_alloc hB _) _⟩
        case round =>
          clear hW hH hB
          obtain ⟨k, hk, rfl, hV, hK, hW, hH, hB⟩ := hrel
          by_cases hlt : k < 64
          · obtain ⟨l, hl⟩ : ∃ l, l = R3 [h0, h1, h2, h3, h4, h5, h6, h7] (W2 b 48) k := ⟨_, rfl⟩
            rw [← hl] at hV
            have hll : l.length = 8 := by rw [hl]; exact R3_len _ _ rfl _
            have HN := Lib.hid (show R3 [h0, h1, h2, h3, h4, h5, h6, h7] (W2 b 48) (k + 1) = rstep l (rd K64 k) (rd (W2 b 48) k) by rw [hl]; rfl)
            clear hl
            obtain ⟨x0, x1, x2, x3, x4, x5, x6, x7, rfl⟩ := list8 l hll
            clear hll
            have c0 : wr.cell? ⟨w1.heap.size + 1, 0, none⟩ = some (.int .u32 x0) := blk_cell hV 0
            have c1 : wr.cell? ⟨w1.heap.size + 1, 1, none⟩ = some (.int .u32 x1) := blk_cell hV 1
            have c2 : wr.cell? ⟨w1.heap.size + 1, 2, none⟩ = some (.int .u32 x2) := blk_cell hV 2
            have c3 : wr.cell? ⟨w1.heap.size + 1, 3, none⟩ = some (.int .u32 x3) := blk_cell hV 3
            have c4 : wr.cell? ⟨w1.heap.size + 1, 4, none⟩ = some (.int .u32 x4) := blk_cell hV 4
            have c5 : wr.cell? ⟨w1.heap.size + 1, 5, none⟩ = some (.int .u32 x5) := blk_cell hV 5
            have c6 : wr.cell? ⟨w1.heap.size + 1, 6, none⟩ = some (.int .u32 x6) := blk_cell hV 6
            have c7 : wr.cell? ⟨w1.heap.size + 1, 7, none⟩ = some (.int .u32 x7) := blk_cell hV 7
            have ck := (blk_cell hK k).trans (ws_get _ _ (by rw [K64_len]; omega))
            have cw := (blk_cell hW k).trans (ws_get _ _ (by rw [W2_len]; omega))
            obtain ⟨xk, hxk⟩ : ∃ y, y = rd K64 (k : Int) := ⟨_, rfl⟩
            obtain ⟨xw, hxw⟩ : ∃ y, y = rd (W2 b 48) (k : Int) := ⟨_, rfl⟩
            rw [← hxk] at ck HN
            rw [← hxw] at cw HN
            clear hxk hxw
            go_wp2
            have q0 : (k : Int) < 64 := by omega
            go_quiet ((go_at_call 96; exact Calls.quiet_of_same (turn_any _ _ _ (by decide) (by decide))))
            go_wp2
            go_quiet (fail)
            go_wp2
            go_quiet ((go_at_call 96; exact quiet_add_same (turn_any _ _ _ (by decide) (by decide))))
            go_wp2_with (refine wpList_store_rowEq rfl 116 (.tmp 11) (.tmp 203) rfl (w1.heap.size + 1) _ (ws (rstep [x0, x1, x2, x3, x4, x5, x6, x7] xk xw)) rfl rfl (rstep_cells x0 x1 x2 x3 x4 x5 x6 x7 xk xw) 116 _ hV (size_state.trans (rstep_size _ _ _)) (rstep_hold _ _ _ _ _ _ _ _ _ _ _) (ws_one _) ?_)
            go_roundw
            case rel => exact ⟨k + 1, by omega, by go_num, by rw [HN.out]; exact blk_row hV _, blk_rowFar hK (by omega) _, blk_rowFar hW (by omega) _, (hH.drewN _).row (by omega) _, below_setRow (pw_below_drewN hB _) (by omega) _⟩
            case measure => simp [intOf]; omega
          · have hk64 : k = 64 := by omega
            rw [hk64] at hV
            clear hk64
            go_wp2
            go_meet
            case rel => exact ⟨rfl, hV, hH, hB⟩
        --}
      case rest =>
        clear hW hH hB
        obtain ⟨rfl, hV, hH, hB⟩ := hcut
        go_upto_block 6 with fail
        go_cut [11] (fun s11 w' => s11 = .pointer (some ⟨w1.heap.size + 1, 0, none⟩) ∧ w'.heap[w1.heap.size + 1]? = some (.cells (ws (blockF [h0, h1, h2, h3, h4, h5, h6, h7] b)) 116 (0, 0)) ∧ Hd 116 w.heap.size w' [h0, h1, h2, h3, h4, h5, h6, h7] ∧ Below w.heap.size w w')
        case first =>
          go_wp2
          go_loopw [18, 204] (fun _ i wr => ∃ k : Nat, k ≤ 8 ∧ i = .int .i64 k ∧ wr.heap[w1.heap.size + 1]? = some (.cells (ws (V4 [h0, h1, h2, h3, h4, h5, h6, h7] (R3 [h0, h1, h2, h3, h4, h5, h6, h7] (W2 b 48) 64) k)) 116 (0, 0))
              ∧ Hd 116 w.heap.size wr [h0, h1, h2, h3, h4, h5, h6, h7] ∧ Below w.heap.size w wr)
            (fun _ i _ => 8 - (intOf i).toNat)
          case atStart => exact ⟨0, Nat.zero_le _, rfl, hV, hH, hB⟩
          case round =>
            clear hV hH hB
            obtain ⟨k, hk, rfl, hV, hH, hB⟩ := hrel
            by_cases hlt : k < 8
            · have cv := (blk_cell hV k).trans (ws_get _ _ (by rw [V4_len _ _ (R3_len _ _ rfl _)]; omega))
              have ch := (blk_cell hH.1 k).trans (ws_get _ _ (by exact hlt))
              obtain ⟨xv, hxv⟩ : ∃ y, y = rd (V4 [h0, h1, h2, h3, h4, h5, h6, h7] (R3 [h0, h1, h2, h3, h4, h5, h6, h7] (W2 b 48) 64) k) (k : Int) := ⟨_, rfl⟩
              obtain ⟨xh, hxh⟩ : ∃ y, y = rd [h0, h1, h2, h3, h4, h5, h6, h7] (k : Int) := ⟨_, rfl⟩
              rw [← hxv] at cv
              rw [← hxh] at ch
              have HN := Lib.hid (show (V4 [h0, h1, h2, h3, h4, h5, h6, h7] (R3 [h0, h1, h2, h3, h4, h5, h6, h7] (W2 b 48) 64) k).set k ((xv + xh) % 4294967296) = V4 [h0, h1, h2, h3, h4, h5, h6, h7] (R3 [h0, h1, h2, h3, h4, h5, h6, h7] (W2 b 48) 64) (k + 1) by rw [hxv, hxh]; rfl)
              clear hxv hxh
              go_wp2
              have f0 := blk_frozen hV k
              have q0 : (k : Int) < 8 := by omega
              go_still_tail 8, (by kernel_rfl)
              clear q0
              change wpList _ _ _ _ _ wr.drew
              go_wp2
              go_roundw
              case rel => exact ⟨k + 1, by omega, by go_num, (blk_put hV k _ ((ws_set _ _ _).trans (congrArg ws HN.out)) :), Hd.drew (hH.far (by omega) _), below_drew1 (below_set hB (by omega))⟩
              case measure => simp [intOf]; omega
            · have hk8 : k = 8 := by omega
              rw [hk8] at hV
              clear hk8
              go_wp2
              go_meet
              case rel => exact ⟨rfl, hV, hH, hB⟩
        case rest =>
          clear hV hH hB
          obtain ⟨rfl, hV, hH, hB⟩ := hcut
          go_wp2_with (first | (refine wpList_load_row rfl 116 (.tmp 11) rfl (w1.heap.size + 1) rfl 116 _ (0, 0) _ hV Try.underlying116 rfl (size_state.trans (congrArg some ((ws_size _).trans (blockF_len _ _ rfl)).symm)) ?_) | (refine wpList_store_row rfl 116 (.tmp 4) (.tmp 216) rfl (w.heap.size + 1) (ws (blockF [h0, h1, h2, h3, h4, h5, h6, h7] b)) rfl rfl 116 _ hH.2 (size_state.trans (congrArg some ((ws_size _).trans (blockF_len _ _ rfl)).symm)) ((ws8_size _ _ _ _ _ _ _ _).trans ((ws_size _).trans (blockF_len _ _ rfl)).symm) (ws_one _) ?_))
          refine bodyPost_ret (v := .agg (ws (blockF [h0, h1, h2, h3, h4, h5, h6, h7] b))) ?_ rfl ⟨rfl, below_setRow hB (by omega) _⟩
          exact results_cell_row Try.results95 _ _ (w.heap.size + 1) 116 _ (0, 0) _ rfl (setRow_heap _ _ _ _ _ _ hH.2) Try.underlying116 rfl (size_state.trans (congrArg some ((ws_size _).trans (blockF_len _ _ rfl)).symm))
end Go.Proofs.Ytilehfdplgciiaa.Hand
