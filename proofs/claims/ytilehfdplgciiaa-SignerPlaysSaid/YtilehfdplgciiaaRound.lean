import Derived.Test.YtilehfdplgciiaaProg
import Derived.Test.YtilehfdplgciiaaSha
import Derived.Deep.WholeRow
import Derived.WalkKit
import Derived.KernelRfl
import Derived.Outline
import Derived.StillTailTactics
import Derived.BigRegion
import Derived.BigQuiet
import Derived.Deep.QuietTactic
import Derived.Lib.Hide
import Derived.Laws.CopyOwn
import Derived.Deep.DeepCutAuto
namespace Go.Proofs.Ytilehfdplgciiaa.Hand
open Go.RowKit Go.Proofs.YtilehfdplgciiaaW.PrintWords
set_option linter.unusedVariables false

/-- The reference's compression: the same function. -/
def certpathref01_round.f (l0 : List Int) (a1 : ByteArray) : Option (List Int) := if l0.length = 8 ∧ a1.size = 64 then some (blockF l0 (bytesOf a1)) else none

theorem signed_u32 : IntKind.u32.signed = false := rfl
theorem byte_at (s : ByteArray) (i : Nat) (h : i < s.size) : ((s[i]'h).toNat : Int) = rd (bytesOf s) i := by
  have h' : i < s.data.toList.length := by simpa using h
  have : s[i]'h = s.data.toList[i] := rfl
  simp [rd, bytesOf, List.getElem?_eq_getElem h', this]

set_option maxHeartbeats 4000000 in
set_option maxRecDepth 100000 in
theorem round_any (h0 h1 h2 h3 h4 h5 h6 h7 : Int) (b : ByteArray) (ab off c : Nat) (w : World) (hs : b.size = 64)
    (hh : ∀ j, j < 8 → w.cell? ⟨ab, off + j, none⟩ = some (.int .u32 (rd [h0, h1, h2, h3, h4, h5, h6, h7] j))) (hbb : ab < w.heap.size) :
    Calls Try.prog 86 #[.slice (some ⟨ab, off, none⟩) 8 c, .string b] w fun e w' => ∃ g : Nat, e = .returned (.slice (some ⟨g, 0, none⟩) 8 8) ∧ w'.heap[g]? = some (.cells (ws (blockF [h0, h1, h2, h3, h4, h5, h6, h7] (bytesOf b))) 108 (0, 0)) ∧ w.heap.size ≤ g ∧ Below w.heap.size w w' := by
  have Hh := Lib.hid hh
  have Hs := Lib.hid hs
  clear hh hs
  go_enter Try.func86, Try.ntmps86
  go_upto_block 0 with fail
  go_cut [6] (fun s6 w' => s6 = .pointer (some ⟨w.heap.size + 1, 0, none⟩) ∧ w'.heap[w.heap.size + 1]? = some (.cells (ws (W2 (bytesOf b) 0)) 111 (0, 0)) ∧ w'.heap[w.heap.size]? = some (.cells (ws K64) 108 (0, 0)) ∧ Below w.heap.size w w')
  case first =>
    --{
    as_aux_lemma =>
    go_wp2
    go_loopw [7] (fun i wr => ∃ k : Nat, k ≤ 16 ∧ i = .int .i64 k ∧ wr.heap[w.heap.size + 1]? = some (.cells (ws (W1 (bytesOf b) k)) 111 (0, 0)) ∧ wr.heap[w.heap.size]? = some (.cells (ws K64) 108 (0, 0)) ∧ Below w.heap.size w wr)
      (fun i _ => 16 - (intOf i).toNat)
    case atStart =>
      refine ⟨0, Nat.zero_le _, rfl, ?_, ?_, ?_⟩
      · rw [show W1 (bytesOf b) 0 = zeros64 from rfl, ← lit64]; exact blk_newAt _ _ _ (by simp)
      · exact blk_alloc (blk_new _ _) _
      · exact below_alloc (below_alloc (Below.refl _ _) _) _
    case round =>
      obtain ⟨k, hk, rfl, hW, hK, hB⟩ := hrel
      by_cases hlt : k < 16
      · as_aux_lemma =>
        obtain ⟨y0, hy0⟩ : ∃ y, y = rd (bytesOf b) (4 * k) := ⟨_, rfl⟩
        have e0 : ∀ h : (4 * (k : Int)).toNat < b.size, ((b[(4 * (k : Int)).toNat]'h).toNat : Int) = y0 := fun h => by rw [hy0]; exact (byte_at b _ h).trans (by congr 1 <;> omega)
        have d0 : ∀ h : 4 * k < b.size, ((b[4 * k]'h).toNat : Int) = y0 := fun h => by rw [hy0]; exact (byte_at b _ h).trans (by congr 1 <;> omega)
        obtain ⟨y1, hy1⟩ : ∃ y, y = rd (bytesOf b) (4 * k + 1) := ⟨_, rfl⟩
        have e1 : ∀ h : (4 * (k : Int) + 1).toNat < b.size, ((b[(4 * (k : Int) + 1).toNat]'h).toNat : Int) = y1 := fun h => by rw [hy1]; exact (byte_at b _ h).trans (by congr 1 <;> omega)
        have d1 : ∀ h : 4 * k + 1 < b.size, ((b[4 * k + 1]'h).toNat : Int) = y1 := fun h => by rw [hy1]; exact (byte_at b _ h).trans (by congr 1 <;> omega)
        obtain ⟨y2, hy2⟩ : ∃ y, y = rd (bytesOf b) (4 * k + 2) := ⟨_, rfl⟩
        have e2 : ∀ h : (4 * (k : Int) + 2).toNat < b.size, ((b[(4 * (k : Int) + 2).toNat]'h).toNat : Int) = y2 := fun h => by rw [hy2]; exact (byte_at b _ h).trans (by congr 1 <;> omega)
        have d2 : ∀ h : 4 * k + 2 < b.size, ((b[4 * k + 2]'h).toNat : Int) = y2 := fun h => by rw [hy2]; exact (byte_at b _ h).trans (by congr 1 <;> omega)
        obtain ⟨y3, hy3⟩ : ∃ y, y = rd (bytesOf b) (4 * k + 3) := ⟨_, rfl⟩
        have e3 : ∀ h : (4 * (k : Int) + 3).toNat < b.size, ((b[(4 * (k : Int) + 3).toNat]'h).toNat : Int) = y3 := fun h => by rw [hy3]; exact (byte_at b _ h).trans (by congr 1 <;> omega)
        have d3 : ∀ h : 4 * k + 3 < b.size, ((b[4 * k + 3]'h).toNat : Int) = y3 := fun h => by rw [hy3]; exact (byte_at b _ h).trans (by congr 1 <;> omega)
        have HN := Lib.hid (show (W1 (bytesOf b) k).set k (word y0 y1 y2 y3) = W1 (bytesOf b) (k + 1) by rw [hy0, hy1, hy2, hy3]; rfl)
        clear hy0 hy1 hy2 hy3
        go_wp2
        have f0 := blk_frozen hW k
        have f1 := (blk_cell hW k).trans (ws_get _ _ (by rw [W1_len]; omega))
        have s0 : IntKind.i64.wrap (4 * (k : Int)) = 4 * (k : Int) := IntWalk.i64_in _ (by omega)
        have p0 : 0 ≤ 4 * (k : Int) := by omega
        have q0 : 4 * (k : Int) < (b.size : Int) := by have := Hs.out; omega
        have t0 : (4 * (k : Int)).toNat = 4 * k := by omega
        have s1 : IntKind.i64.wrap (4 * (k : Int) + 1) = 4 * (k : Int) + 1 := IntWalk.i64_in _ (by omega)
        have p1 : 0 ≤ 4 * (k : Int) + 1 := by omega
        have q1 : 4 * (k : Int) + 1 < (b.size : Int) := by have := Hs.out; omega
        have t1 : (4 * (k : Int) + 1).toNat = 4 * k + 1 := by omega
        have s2 : IntKind.i64.wrap (4 * (k : Int) + 2) = 4 * (k : Int) + 2 := IntWalk.i64_in _ (by omega)
        have p2 : 0 ≤ 4 * (k : Int) + 2 := by omega
        have q2 : 4 * (k : Int) + 2 < (b.size : Int) := by have := Hs.out; omega
        have t2 : (4 * (k : Int) + 2).toNat = 4 * k + 2 := by omega
        have s3 : IntKind.i64.wrap (4 * (k : Int) + 3) = 4 * (k : Int) + 3 := IntWalk.i64_in _ (by omega)
        have p3 : 0 ≤ 4 * (k : Int) + 3 := by omega
        have q3 : 4 * (k : Int) + 3 < (b.size : Int) := by have := Hs.out; omega
        have t3 : (4 * (k : Int) + 3).toNat = 4 * k + 3 := by omega
        have r0 : (k : Int) < 64 := by omega
        go_still_tail 31, (by kernel_rfl)
        clear s0 s1 s2 s3 p0 p1 p2 p3 q0 q1 q2 q3 t0 t1 t2 t3 r0 e0 e1 e2 e3 d0 d1 d2 d3
        change wpList _ _ _ _ _ wr.drew
        go_wp2
        go_roundw
        case rel => exact ⟨k + 1, by omega, by go_num, (blk_put hW k _ ((ws_set _ _ _).trans (congrArg ws HN.out)) :), blk_drew (blk_far hK (show w.heap.size ≠ w.heap.size + 1 by omega) _), below_drew1 (below_set hB (by omega))⟩
        case measure => simp [intOf]; omega
      · have hk16 : k = 16 := by omega
        rw [show W1 (bytesOf b) k = W2 (bytesOf b) 0 by rw [hk16]; rfl] at hW
        clear hk16
        go_wp2
        go_meet
        case rel => exact ⟨rfl, hW, hK, hB⟩
    --}
  case rest =>
    obtain ⟨rfl, hW, hK, hB⟩ := hcut
    go_upto_block 2 with fail
    go_cut [6] (fun s6 w' => s6 = .pointer (some ⟨w.heap.size + 1, 0, none⟩) ∧ w'.heap[w.heap.size + 1]? = some (.cells (ws (W2 (bytesOf b) 48)) 111 (0, 0)) ∧ w'.heap[w.heap.size]? = some (.cells (ws K64) 108 (0, 0)) ∧ Below w.heap.size w w')
    case first =>
      --{
      as_aux_lemma =>
      go_wp2
      go_loopw [8, 9, 10, 11, 12] (fun i _ _ _ _ wr => ∃ k : Nat, k ≤ 48 ∧ i = .int .i64 (16 + (k : Int)) ∧ wr.heap[w.heap.size + 1]? = some (.cells (ws (W2 (bytesOf b) k)) 111 (0, 0)) ∧ wr.heap[w.heap.size]? = some (.cells (ws K64) 108 (0, 0)) ∧ Below w.heap.size w wr)
        (fun i _ _ _ _ _ => 64 - (intOf i).toNat)
      case atStart => exact ⟨0, Nat.zero_le _, rfl, hW, hK, hB⟩
      case round =>
        clear hW hK hB
        obtain ⟨k, hk, rfl, hW, hK, hB⟩ := hrel
        by_cases hlt : k < 48
        · as_aux_lemma =>
          have c15 := (blk_cell hW (k + 1)).trans (ws_get _ _ (by rw [W2_len]; omega))
          obtain ⟨x15, hx15⟩ : ∃ y, y = rd (W2 (bytesOf b) k) ((k + 1 : Nat) : Int) := ⟨_, rfl⟩
          rw [← hx15] at c15
          have c2 := (blk_cell hW (k + 14)).trans (ws_get _ _ (by rw [W2_len]; omega))
          obtain ⟨x2, hx2⟩ : ∃ y, y = rd (W2 (bytesOf b) k) ((k + 14 : Nat) : Int) := ⟨_, rfl⟩
          rw [← hx2] at c2
          have c16 := (blk_cell hW (k)).trans (ws_get _ _ (by rw [W2_len]; omega))
          obtain ⟨x16, hx16⟩ : ∃ y, y = rd (W2 (bytesOf b) k) ((k : Nat) : Int) := ⟨_, rfl⟩
          rw [← hx16] at c16
          have c7 := (blk_cell hW (k + 9)).trans (ws_get _ _ (by rw [W2_len]; omega))
          obtain ⟨x7, hx7⟩ : ∃ y, y = rd (W2 (bytesOf b) k) ((k + 9 : Nat) : Int) := ⟨_, rfl⟩
          rw [← hx7] at c7
          have ci := (blk_cell hW (16 + k)).trans (ws_get _ _ (by rw [W2_len]; omega))
          obtain ⟨xi, hxi⟩ : ∃ y, y = rd (W2 (bytesOf b) k) ((16 + k : Nat) : Int) := ⟨_, rfl⟩
          rw [← hxi] at ci
          have HN := (show (W2 (bytesOf b) k).set (16 + k) ((x16 + sg0 x15 + x7 + sg1 x2) % 4294967296) = W2 (bytesOf b) (k + 1) by
            rw [hx15, hx2, hx16, hx7]
            show _ = (W2 (bytesOf b) k).set (16 + k) (mix (W2 (bytesOf b) k) (16 + k))
            unfold mix
            rw [show (16 + (k : Int) - 16) = (k : Int) by omega, show (16 + (k : Int) - 15) = ((k + 1 : Nat) : Int) by omega, show (16 + (k : Int) - 7) = ((k + 9 : Nat) : Int) by omega, show (16 + (k : Int) - 2) = ((k + 14 : Nat) : Int) by omega])
          simp only [sg0, sg1, rotr_7, rotr_18, rotr_17, rotr_19] at HN
          replace HN := Lib.hid HN
          clear hx15 hx2 hx16 hx7 hxi
          go_wp2
          have s15 : IntKind.i64.wrap (16 + (k : Int) - 15) = k + 1 := (IntWalk.i64_in _ (by omega)).trans (by omega)
          have p1 : 0 ≤ (k : Int) + 1 := by omega
          have q1 : (k : Int) + 1 < 64 := by omega
          have t1 : ((k : Int) + 1).toNat = k + 1 := by omega
          have s2 : IntKind.i64.wrap (16 + (k : Int) - 2) = k + 14 := (IntWalk.i64_in _ (by omega)).trans (by omega)
          have p14 : 0 ≤ (k : Int) + 14 := by omega
          have q14 : (k : Int) + 14 < 64 := by omega
          have t14 : ((k : Int) + 14).toNat = k + 14 := by omega
          have s7 : IntKind.i64.wrap (16 + (k : Int) - 7) = k + 9 := (IntWalk.i64_in _ (by omega)).trans (by omega)
          have p9 : 0 ≤ (k : Int) + 9 := by omega
          have q9 : (k : Int) + 9 < 64 := by omega
          have t9 : ((k : Int) + 9).toNat = k + 9 := by omega
          have s16 : IntKind.i64.wrap (16 + (k : Int) - 16) = k := (IntWalk.i64_in _ (by omega)).trans (by omega)
          have p16 : 0 ≤ 16 + (k : Int) := by omega
          have q16 : 16 + (k : Int) < 64 := by omega
          have q0 : (k : Int) < 64 := by omega
          have t16 : (16 + (k : Int)).toNat = 16 + k := by omega
          go_quiet (fail)
          obtain ⟨w2, hw2⟩ : ∃ w2 : World, w2 = wr.drewN nq := ⟨_, rfl⟩
          replace hW := drewN_heap hw2 hW
          replace hK := drewN_heap hw2 hK
          replace hB := drewN_below hw2 hB
          replace c7 := drewN_cell hw2 c7
          replace c16 := drewN_cell hw2 c16
          replace ci := drewN_cell hw2 ci
          rw [← hw2]
          clear hw2 c15 c2
          have f0 := blk_frozen hW (16 + k)
          go_wp2
          go_still_tail 15, (by kernel_rfl)
          clear s15 s2 s16 s7 p1 p14 p9 p16 q1 q14 q9 q16 q0 t1 t14 t9 t16
          change wpList _ _ _ _ _ w2.drew
          go_wp2
          go_roundw
          case rel => exact ⟨k + 1, by omega, by go_num, (blk_put hW (16 + k) _ ((ws_set _ _ _).trans (congrArg ws HN.out)) :), blk_drew (blk_far hK (show w.heap.size ≠ w.heap.size + 1 by omega) _), below_drew1 (below_set hB (by omega))⟩
          case measure => simp [intOf]; omega
        · have hk48 : k = 48 := by omega
          rw [hk48] at hW
          clear hk48
          go_wp2
          go_meet
          case rel => exact ⟨rfl, hW, hK, hB⟩
      --}
    case rest =>
      clear hW hK hB
      obtain ⟨rfl, hW, hK, hB⟩ := hcut
      have hh0 : wc.cell? ⟨ab, off, none⟩ = some (.int .u32 h0) := (hB.cell hbb).trans (Hh.out 0 (by omega))
      have hh1 : wc.cell? ⟨ab, off + 1, none⟩ = some (.int .u32 h1) := (hB.cell hbb).trans (Hh.out 1 (by omega))
      have hh2 : wc.cell? ⟨ab, off + 2, none⟩ = some (.int .u32 h2) := (hB.cell hbb).trans (Hh.out 2 (by omega))
      have hh3 : wc.cell? ⟨ab, off + 3, none⟩ = some (.int .u32 h3) := (hB.cell hbb).trans (Hh.out 3 (by omega))
      have hh4 : wc.cell? ⟨ab, off + 4, none⟩ = some (.int .u32 h4) := (hB.cell hbb).trans (Hh.out 4 (by omega))
      have hh5 : wc.cell? ⟨ab, off + 5, none⟩ = some (.int .u32 h5) := (hB.cell hbb).trans (Hh.out 5 (by omega))
      have hh6 : wc.cell? ⟨ab, off + 6, none⟩ = some (.int .u32 h6) := (hB.cell hbb).trans (Hh.out 6 (by omega))
      have hh7 : wc.cell? ⟨ab, off + 7, none⟩ = some (.int .u32 h7) := (hB.cell hbb).trans (Hh.out 7 (by omega))
      go_wp2
      go_quiet (fail)
      go_upto_block 4 with fail
      go_cut [13, 14, 15, 16, 17, 18, 19, 20] (fun s13 s14 s15 s16 s17 s18 s19 s20 w' => ∃ x0 x1 x2 x3 x4 x5 x6 x7 : Int, s13 = .int .u32 x0 ∧ s14 = .int .u32 x1 ∧ s15 = .int .u32 x2 ∧ s16 = .int .u32 x3 ∧ s17 = .int .u32 x4 ∧ s18 = .int .u32 x5 ∧ s19 = .int .u32 x6 ∧ s20 = .int .u32 x7 ∧ Hid (R3 [h0, h1, h2, h3, h4, h5, h6, h7] (W2 (bytesOf b) 48) 64 = [x0, x1, x2, x3, x4, x5, x6, x7]) ∧ Below w.heap.size w w')
      case first =>
        go_wp2
        go_loopw [13, 14, 15, 16, 17, 18, 19, 20, 21, 22, 23, 24, 25] (fun s13 s14 s15 s16 s17 s18 s19 s20 i _ _ _ _ wr => ∃ k : Nat, k ≤ 64 ∧ i = .int .i64 k ∧ ∃ x0 x1 x2 x3 x4 x5 x6 x7 : Int, s13 = .int .u32 x0 ∧ s14 = .int .u32 x1 ∧ s15 = .int .u32 x2 ∧ s16 = .int .u32 x3 ∧ s17 = .int .u32 x4 ∧ s18 = .int .u32 x5 ∧ s19 = .int .u32 x6 ∧ s20 = .int .u32 x7 ∧ Hid (R3 [h0, h1, h2, h3, h4, h5, h6, h7] (W2 (bytesOf b) 48) k = [x0, x1, x2, x3, x4, x5, x6, x7]) ∧ wr.heap[w.heap.size + 1]? = some (.cells (ws (W2 (bytesOf b) 48)) 111 (0, 0)) ∧ wr.heap[w.heap.size]? = some (.cells (ws K64) 108 (0, 0)) ∧ Below w.heap.size w wr)
          (fun _ _ _ _ _ _ _ _ i _ _ _ _ _ => 64 - (intOf i).toNat)
        case atStart => exact ⟨0, Nat.zero_le _, rfl, h0, h1, h2, h3, h4, h5, h6, h7, rfl, rfl, rfl, rfl, rfl, rfl, rfl, rfl, Lib.hid rfl, hW, hK, pw_below_drewN hB _⟩
        case round =>
          clear hW hK hB hh0 hh1 hh2 hh3 hh4 hh5 hh6 hh7
          obtain ⟨k, hk, rfl, x0, x1, x2, x3, x4, x5, x6, x7, rfl, rfl, rfl, rfl, rfl, rfl, rfl, rfl, HR, hW, hK, hB⟩ := hrel
          by_cases hlt : k < 64
          · have ck := (blk_cell hK k).trans (ws_get _ _ (by rw [K64_len]; omega))
            have cw := (blk_cell hW k).trans (ws_get _ _ (by rw [W2_len]; omega))
            obtain ⟨xk, hxk⟩ : ∃ y, y = rd K64 (k : Int) := ⟨_, rfl⟩
            obtain ⟨xw, hxw⟩ : ∃ y, y = rd (W2 (bytesOf b) 48) (k : Int) := ⟨_, rfl⟩
            rw [← hxk] at ck
            rw [← hxw] at cw
            have HN := (show R3 [h0, h1, h2, h3, h4, h5, h6, h7] (W2 (bytesOf b) 48) (k + 1) = rstep (R3 [h0, h1, h2, h3, h4, h5, h6, h7] (W2 (bytesOf b) 48) k) (rd K64 k) (rd (W2 (bytesOf b) 48) k) from rfl)
            rw [HR.out, ← hxk, ← hxw, rstep_lit] at HN
            simp only [S0, S1, chf, majf, rotr_6, rotr_11, rotr_25, rotr_2, rotr_13, rotr_22] at HN
            replace HN := Lib.hid HN
            clear hxk hxw HR
            go_wp2
            have q0 : (k : Int) < 64 := by omega
            go_quiet (fail)
            go_wp2
            go_roundw
            case rel => exact ⟨k + 1, by omega, by go_num, _, _, _, _, _, _, _, _, rfl, rfl, rfl, rfl, rfl, rfl, rfl, rfl, Lib.hid (HN.out.trans (by simp only [signed_u32, Bool.false_eq_true, if_false, Int.emod_add_emod, Int.add_emod_emod])), hW, hK, pw_below_drewN hB _⟩
            case measure => simp [intOf]; omega
          · have hk64 : k = 64 := by omega
            rw [hk64] at HR
            clear hk64
            go_wp2
            go_meet
            case rel => exact ⟨x0, x1, x2, x3, x4, x5, x6, x7, rfl, rfl, rfl, rfl, rfl, rfl, rfl, rfl, HR, hB⟩
      case rest =>
        clear hW hK hB hh0 hh1 hh2 hh3 hh4 hh5 hh6 hh7
        obtain ⟨x0, x1, x2, x3, x4, x5, x6, x7, rfl, rfl, rfl, rfl, rfl, rfl, rfl, rfl, HR, hB⟩ := hcut
        have hh0 : wc.cell? ⟨ab, off, none⟩ = some (.int .u32 h0) := (hB.cell hbb).trans (Hh.out 0 (by omega))
        have hh1 : wc.cell? ⟨ab, off + 1, none⟩ = some (.int .u32 h1) := (hB.cell hbb).trans (Hh.out 1 (by omega))
        have hh2 : wc.cell? ⟨ab, off + 2, none⟩ = some (.int .u32 h2) := (hB.cell hbb).trans (Hh.out 2 (by omega))
        have hh3 : wc.cell? ⟨ab, off + 3, none⟩ = some (.int .u32 h3) := (hB.cell hbb).trans (Hh.out 3 (by omega))
        have hh4 : wc.cell? ⟨ab, off + 4, none⟩ = some (.int .u32 h4) := (hB.cell hbb).trans (Hh.out 4 (by omega))
        have hh5 : wc.cell? ⟨ab, off + 5, none⟩ = some (.int .u32 h5) := (hB.cell hbb).trans (Hh.out 5 (by omega))
        have hh6 : wc.cell? ⟨ab, off + 6, none⟩ = some (.int .u32 h6) := (hB.cell hbb).trans (Hh.out 6 (by omega))
        have hh7 : wc.cell? ⟨ab, off + 7, none⟩ = some (.int .u32 h7) := (hB.cell hbb).trans (Hh.out 7 (by omega))
        go_wp2
        go_still_tail 40, (by kernel_rfl)
        change wpList _ _ _ _ _ wc.drew
        go_wp2
        go_ret
        refine ⟨wc.heap.size, rfl, ?_, hB.size, below_drew1 (below_alloc hB _)⟩
        rw [show blockF [h0, h1, h2, h3, h4, h5, h6, h7] (bytesOf b) = [(h0 + x0) % 4294967296, (h1 + x1) % 4294967296, (h2 + x2) % 4294967296, (h3 + x3) % 4294967296, (h4 + x4) % 4294967296, (h5 + x5) % 4294967296, (h6 + x6) % 4294967296, (h7 + x7) % 4294967296] from (congrArg (fun l => V4 [h0, h1, h2, h3, h4, h5, h6, h7] l 8) HR.out).trans (V4_eight _ _ _ _ _ _ _ _ _ _ _ _ _ _ _ _)]
        exact blk_drew (blk_new _ _)

end Go.Proofs.Ytilehfdplgciiaa.Hand
