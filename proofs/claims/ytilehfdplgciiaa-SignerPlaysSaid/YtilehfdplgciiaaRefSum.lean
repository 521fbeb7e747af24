import Derived.Test.YtilehfdplgciiaaProg
import Derived.Test.YtilehfdplgciiaaHSum
import Derived.Test.YtilehfdplgciiaaRoundC
import Derived.WalkKit
import Derived.KernelRfl
import Derived.Outline
import Derived.StillTailTactics
import Derived.BigRegion
import Derived.Lib.Hide
import Derived.Deep.DeepCutAuto
import Derived.Deep.RegionWith
import Derived.Laws.MakeOwn
/-! certpathref01.Sum: the same digest. -/
namespace Go.Proofs.Ytilehfdplgciiaa.Hand
open Go.RowKit Go.Proofs.YtilehfdplgciiaaW.PrintWords
set_option linter.unusedVariables false

theorem bytesOf_append (a b : ByteArray) : bytesOf (a ++ b) = bytesOf a ++ bytesOf b := by
  unfold bytesOf
  rw [ByteArray.data_append, Array.toList_append, List.map_append]

theorem bytesOf_strOfNums (xs : List Int) (h : ∀ x ∈ xs, 0 ≤ x ∧ x < 256) : bytesOf (strOfNums xs) = xs := by
  unfold bytesOf strOfNums
  simp only [List.map_map]
  refine (List.map_congr_left fun x hx => ?_).trans (List.map_id _)
  have hx2 := h x hx
  simp only [Function.comp_apply, id_eq]
  rw [UInt8.toNat_ofNat']
  omega
theorem bytesOf_extract (m : ByteArray) (i j : Nat) : bytesOf (m.extract i j) = ((bytesOf m).drop i).take (j - i) := by
  unfold bytesOf
  rw [ByteArray.data_extract, Array.toList_extract]
  simp [List.extract_eq_take_drop, List.map_take, List.map_drop]
theorem round_list (hc : List Int) (b : ByteArray) (ab c : Nat) (w : World) (hl : hc.length = 8) (hs : b.size = 64) (hh : w.heap[ab]? = some (.cells (ws hc) 108 (0, 0))) :
    Calls Try.prog 86 #[.slice (some ⟨ab, 0, none⟩) 8 c, .string b] w fun e w' => ∃ g : Nat, e = .returned (.slice (some ⟨g, 0, none⟩) 8 8) ∧ w'.heap[g]? = some (.cells (ws (blockF hc (bytesOf b))) 108 (0, 0)) ∧ w.heap.size ≤ g ∧ Below w.heap.size w w' := by
  obtain ⟨x0, x1, x2, x3, x4, x5, x6, x7, rfl⟩ := list8 hc hl
  exact round_any x0 x1 x2 x3 x4 x5 x6 x7 b ab 0 c w hs (fun j hj => by rw [Nat.zero_add]; exact (blk_cell hh j).trans (ws_get _ _ (by exact hj))) (blk_lt hh)
theorem lenBytes_drop (n k : Nat) (hk : k < 8) : (lenBytes n).drop (8 - (k + 1)) = (8 * (n : Int) / 2 ^ (8 * k) % 256) :: (lenBytes n).drop (8 - k) := by
  rw [Int.mul_comm 8 (n : Int)]
  rcases k with _ | _ | _ | _ | _ | _ | _ | _ | k <;> first | (simp [lenBytes]; done) | omega
theorem pad_step (n pz k : Nat) (hk : k < 8) : (128 :: (List.replicate (8 + pz - k) 0 ++ (lenBytes n).drop (8 - k))).set (8 + pz - k) (8 * (n : Int) / 2 ^ (8 * k) % 256) = 128 :: (List.replicate (8 + pz - (k + 1)) 0 ++ (lenBytes n).drop (8 - (k + 1))) := by
  rw [lenBytes_drop n k hk, show 8 + pz - k = (8 + pz - (k + 1)) + 1 by omega, List.set_cons_succ, List.replicate_succ', List.append_assoc, List.set_append_right _ _ (by simp)]
  simp
theorem pad_len (n : Nat) : (pad n).length = 9 + padZeros n := by simp [pad, lenBytes]; omega
theorem pad_range (n : Nat) : ∀ x ∈ pad n, 0 ≤ x ∧ x < 256 := by
  intro x hx
  simp only [pad, lenBytes, List.mem_cons, List.mem_append, List.mem_replicate, List.not_mem_nil, or_false] at hx
  rcases hx with h | h | h | h | h | h | h | h | h | h <;> omega

set_option maxHeartbeats 400000 in
set_option maxRecDepth 100000 in
theorem certpathref01_Sum.calls (A0 : Option Addr) (c0 : Nat) (l0 : List ByteArray) (r : ByteArray) (w : World) (hr0 : Kd.C Kd.string w A0 l0.length l0) (hc0 : l0.length ≤ c0) (h : hash_Sum.f l0 = some r) :
    Calls Try.prog 69 #[.slice A0 l0.length c0] w fun e w' => e = .returned (.string r) ∧ Below w.heap.size w w' := by
  unfold hash_Sum.f at h
  split at h
  case isFalse => cases h
  rename_i hcl
  obtain rfl := Option.some.inj h
  clear h
  have hR : ReadsOf Value.string ByteArray.empty w A0 l0.length l0 := Kd.reads_of_C hr0
  have HR := Lib.hid hR
  clear hR hr0
  obtain ⟨n, hn⟩ : ∃ n, n = (cat l0).length := ⟨_, rfl⟩
  obtain ⟨z, hz⟩ : ∃ z, Hid (z = outBytes (comp IV (cat l0 ++ pad n)).1) := ⟨_, Lib.hid rfl⟩
  have hz2 : sha (cat l0) = z := by rw [hz.out, hn]; rfl
  rw [hz2]
  clear hz2
  rw [← hn] at hcl
  have HN := Lib.hid hn
  clear hn
  go_enter Try.func69, Try.ntmps69
  go_upto_block 0 with fail
  go_cut [3] (fun s3 w' => ∃ b : ByteArray, s3 = .string b ∧ bytesOf b = cat l0 ∧ b.size = n ∧ Below w.heap.size w w')
  case first =>
    go_wp2
    go_loopw [3, 5, 17] (fun s3 _ i wr => ∃ (k : Nat) (b : ByteArray), k ≤ l0.length ∧ i = .int .i64 k ∧ s3 = .string b ∧ bytesOf b = cat (l0.take k) ∧ Below w.heap.size w wr)
      (fun _ _ i _ => (l0.length - intOf i).toNat)
    case atStart => exact ⟨0, _, Nat.zero_le _, rfl, rfl, rfl, Below.refl _ _⟩
    case round =>
      obtain ⟨k, b, hk, rfl, rfl, hb, hB⟩ := hrel
      have hll := HR.out.2.1
      by_cases hlt : k < l0.length
      · obtain ⟨ad, rfl, hc⟩ := HR.out.at_ (k : Int) (by omega) (by omega)
        replace hc := pw_cell_below hB hc
        have hst := cat_step l0 k hlt ByteArray.empty
        have hle := cat_take_le l0 (k + 1)
        rw [← hst, List.length_append, bytesOf_length, ← HN.out, ← hb, bytesOf_length] at hle
        generalize rdOf ByteArray.empty l0 (k : Int) = b2 at *
        have q0 : (k : Int) < l0.length := by omega
        rw [Int.toNat_natCast] at hc
        go_wp2
        go_roundw
        case rel => exact ⟨k + 1, _, by omega, by go_num, rfl, by rw [bytesOf_append, hb, hst], hB⟩
        case measure => simp [intOf]; omega
      · have hk2 : k = l0.length := by omega
        subst hk2
        rw [List.take_length] at hb
        go_wp2
        go_meet
        case rel => exact ⟨_, rfl, hb, by rw [← bytesOf_length, hb, HN.out], hB⟩
  case rest =>
    obtain ⟨b, rfl, hb, hbn, hB⟩ := hcut
    obtain ⟨pz, hpz⟩ : ∃ pz, pz = padZeros n := ⟨_, rfl⟩
    have hpz2 : pz = (119 - n % 64) % 64 := hpz
    have HP := Lib.hid hpz
    have HP2 := Lib.hid hpz2
    have hpz3 : pz < 64 := by omega
    clear hpz hpz2
    go_upto_if 33 with fail
    have hh := heap_alloc_new wc (.cells (ws IV) 108)
    have hB1 := below_alloc hB (.cells (ws IV) 108)
    obtain ⟨gh, hgh⟩ : ∃ gh, gh = wc.heap.size := ⟨_, rfl⟩
    have hghB : w.heap.size ≤ gh := by have := hB.size; omega
    change Code.wp _ _ _ _ (wc.alloc (.cells (ws IV) 108))
    generalize wc.alloc (.cells (ws IV) 108) = w1 at hh hB1 ⊢
    rw [← hgh] at hh ⊢
    clear hgh hB
    go_cut [8] (fun s8 w' => s8 = .int .i64 pz ∧ w' = w1)
    case first =>
      by_cases hp : (64 - ((n : Int) + 9) % 64 == 64) = true
      · have hp2 : (64 - ((n : Int) + 9) % 64) = 64 := by simpa using hp
        have hp0 : pz = 0 := by have := HP2.out; omega
        go_wp2
        go_meet
        case rel => exact ⟨by rw [hp0]; rfl, rfl⟩
      · have hp3 : (64 - ((n : Int) + 9) % 64 == 64) = false := by simpa using hp
        have hp2 : ¬ (64 - ((n : Int) + 9) % 64) = 64 := by simpa using hp
        have hp0 : (64 - ((n : Int) + 9) % 64) = (pz : Int) := by have := HP2.out; omega
        go_wp2
        go_meet
        case rel => exact ⟨by rw [hp0], rfl⟩
    case rest =>
      obtain ⟨rfl, rfl⟩ := hcut
      have hmk : ∀ W : World, (Instr.makeSlice 24 (.int .i64 (9 + (pz : Int))) (.int .i64 (9 + (pz : Int)))).run Try.prog W = .ok (.slice (some ⟨W.heap.size, 0, none⟩) (9 + pz) (9 + pz)) (W.alloc (.cells (madeCells #[.int .u8 0] (9 + pz)) 5)) := fun W => by
        have h := print_make (P := Try.prog) 24 5 .u8 1 Try.underlying24 info_u8 (by decide) (9 + pz) (by omega) W
        rw [show ((9 + pz : Nat) : Int) = 9 + (pz : Int) by omega] at h
        exact h
      have hO := own_made wc w.heap.size 5 .u8 (9 + pz) hB1.size (by omega)
      have hB2 := below_alloc hB1 (.cells (madeCells #[.int .u8 0] (9 + pz)) 5)
      have hh2 := blk_alloc hh (.cells (madeCells #[.int .u8 0] (9 + pz)) 5)
      go_upto_region 13 with fail
      obtain ⟨g9, hg9⟩ : ∃ g9, g9 = wc.heap.size := ⟨_, rfl⟩
      have hg9B : w.heap.size ≤ g9 := by have := hB1.size; omega
      have hg9h : gh < g9 := by have := blk_lt hh; omega
      rw [← hg9] at hO ⊢
      clear hg9 hB1 hh
      generalize wc.alloc (.cells (madeCells #[.int .u8 0] (9 + pz)) 5) = w2 at hO hB2 hh2 ⊢
      have hfz := (Go.Proofs.YtilehfdplgciiaaW.PrintWords.own_at hO 0 (by omega) (by omega))
      have hf0 := hfz.2
      have hc0 := hfz.1
      rw [show (0 : Int).toNat = 0 from rfl] at hf0 hc0
      have hO1 := (own_store hO 0 128).1
      rw [show (0 : Int).toNat = 0 from rfl] at hO1
      have hB3 : Below w.heap.size w (w2.setCell ⟨g9, 0, none⟩ (.int .u8 128)) := hB2.setCell hg9B _
      have hh3 : (w2.setCell ⟨g9, 0, none⟩ (.int .u8 128)).heap[gh]? = some (.cells (ws IV) 108 (0, 0)) := (Below.heap_setCell w2 ⟨g9, 0, none⟩ _ gh (by show gh ≠ g9; omega)).trans hh2
      clear hfz
      go_upto_block 2 with fail
      generalize w2.setCell ⟨g9, 0, none⟩ (.int .u8 128) = w3 at hO1 hB3 hh3 ⊢
      clear hf0 hc0 hO hB2 hh2
      rw [show (List.replicate (9 + pz) (0:Int)).set 0 128 = 128 :: (List.replicate (8 + pz - 0) 0 ++ (lenBytes n).drop 8) by rw [show 9 + pz = (8 + pz) + 1 by omega, List.replicate_succ]; simp [lenBytes]] at hO1
      go_cut [10] (fun s10 w' => w'.ownsRow w.heap.size 5 1 (.slice (some ⟨g9, 0, none⟩) (9 + pz) (9 + pz)) (9 + pz) (nums .u8 (pad n)) ∧ Below w.heap.size w w' ∧ w'.heap[gh]? = some (.cells (ws IV) 108 (0, 0)))
      case first =>
        go_wp2
        go_loopw [10] (fun i wr => ∃ k : Nat, k ≤ 8 ∧ i = .int .i64 k ∧ wr.ownsRow w.heap.size 5 1 (.slice (some ⟨g9, 0, none⟩) (9 + pz) (9 + pz)) (9 + pz) (nums .u8 (128 :: (List.replicate (8 + pz - k) 0 ++ (lenBytes n).drop (8 - k)))) ∧ Below w.heap.size w wr ∧ wr.heap[gh]? = some (.cells (ws IV) 108 (0, 0)))
          (fun i _ => (8 - intOf i).toNat)
        case atStart => exact ⟨0, Nat.zero_le _, rfl, hO1, hB3, hh3⟩
        case round =>
          clear hO1 hB3 hh3
          obtain ⟨k, hk, rfl, hO, hB, hh⟩ := hrel
          by_cases hlt : k < 8
          · have e1 : (8 + pz - k : Int).toNat = 8 + pz - k := by omega
            have hfz := (Go.Proofs.YtilehfdplgciiaaW.PrintWords.own_at hO (8 + pz - k) (by omega) (by omega))
            rw [e1] at hfz
            have hf0 := hfz.2
            have hc0 := hfz.1
            have hO1 := (own_store hO (8 + pz - k) (8 * (n : Int) / 2 ^ (8 * k) % 256)).1
            rw [e1, pad_step n pz k hlt] at hO1
            clear hfz
            have hB1 : Below w.heap.size w (wr.setCell ⟨g9, 8 + pz - k, none⟩ (.int .u8 (8 * (n : Int) / 2 ^ (8 * k) % 256))) := hB.setCell hg9B _
            have hh1 : (wr.setCell ⟨g9, 8 + pz - k, none⟩ (.int .u8 (8 * (n : Int) / 2 ^ (8 * k) % 256))).heap[gh]? = some (.cells (ws IV) 108 (0, 0)) := (Below.heap_setCell wr ⟨g9, 8 + pz - k, none⟩ _ gh (by show gh ≠ g9; omega)).trans hh
            go_wp2
            go_roundw
            case rel => exact ⟨k + 1, by omega, by go_num, hO1, hB1, hh1⟩
            case measure => simp [intOf]; omega
          · have hk8 : k = 8 := by omega
            subst hk8
            go_wp2
            go_meet
            case rel => exact ⟨by rw [show pad n = 128 :: (List.replicate (8 + pz - 8) 0 ++ (lenBytes n).drop (8 - 8)) by rw [HP.out, show 8 + padZeros n - 8 = padZeros n by omega]; rfl]; exact hO, hB, hh⟩
      case rest =>
        clear hO1 hB3 hh3
        obtain ⟨hO, hB, hh⟩ := hcut
        have hcv := own_string (P := Try.prog) Try.underlying24 Try.underlying5 Try.underlying9 hO
        have hms : bytesOf (b ++ strOfNums (pad n)) = cat l0 ++ pad n := by rw [bytesOf_append, hb, bytesOf_strOfNums _ (pad_range n)]
        have hml : (cat l0 ++ pad n).length ≤ 1099511627776 + 128 := by rw [List.length_append, ← HN.out, pad_len]; have : padZeros n < 64 := Nat.mod_lt _ (by decide); omega
        have hm64 : (cat l0 ++ pad n).length % 64 = 0 := by rw [List.length_append, ← HN.out, pad_len]; have : padZeros n = (119 - n % 64) % 64 := rfl; omega
        have hsz1 : b.size + (strOfNums (pad n)).size ≤ 9223372036854775807 := by
          have := congrArg List.length hms
          rw [bytesOf_append, List.length_append, bytesOf_length, bytesOf_length] at this
          omega
        go_upto_region 19 with fail
        generalize b ++ strOfNums (pad n) = m at *
        clear hO hcv hsz1 hb
        obtain ⟨r, hr⟩ : ∃ r, Hid (comp IV (cat l0 ++ pad n) = r) := ⟨_, Lib.hid rfl⟩
        replace hz := Lib.hid (show z = outBytes r.1 by rw [← hr.out]; exact hz.out)
        generalize cat l0 ++ pad n = zs at *
        have hmsz : m.size = zs.length := by rw [← bytesOf_length, hms]
        go_upto_block 4 with fail
        go_cut [6] (fun s6 w' => ∃ ga : Nat, s6 = .slice (some ⟨ga, 0, none⟩) 8 8 ∧ w'.heap[ga]? = some (.cells (ws r.1) 108 (0, 0)) ∧ r.1.length = 8 ∧ Below w.heap.size w w')
        case first =>
          go_wp2
          go_loopw [6, 11] (fun s6 i wr => ∃ (k ga : Nat) (hc : List Int), 64 * k ≤ zs.length ∧ i = .int .i64 (64 * (k : Int)) ∧ s6 = .slice (some ⟨ga, 0, none⟩) 8 8 ∧ wr.heap[ga]? = some (.cells (ws hc) 108 (0, 0)) ∧ hc.length = 8 ∧ Hid (comp hc (zs.drop (64 * k)) = r) ∧ Below w.heap.size w wr)
            (fun _ i _ => (zs.length - intOf i).toNat)
          case atStart => exact ⟨0, gh, IV, Nat.zero_le _, rfl, rfl, hh, rfl, hr, hB⟩
          case round =>
            clear hh hB hr
            obtain ⟨k, ga, hc, hk, rfl, rfl, hh, hl8, hr, hB⟩ := hrel
            by_cases hlt : 64 * k < zs.length
            · have q0 : 64 * (k : Int) < zs.length := by omega
              have q1 : 64 * (k : Int) < m.size := by omega
              have q2 : 64 * (k : Int) + 64 ≤ m.size := by omega
              have hex : (m.extract (64 * k) (64 * k + 64)).size = 64 := by rw [ByteArray.size_extract]; omega
              have hbx : bytesOf (m.extract (64 * k) (64 * k + 64)) = (zs.drop (64 * k)).take 64 := by rw [bytesOf_extract, hms, show 64 * k + 64 - 64 * k = 64 by omega]
              go_wp2_with (go_at_call 86; refine (round_list hc _ ga 8 _ hl8 hex hh).mono ?_; rintro e w6 ⟨ga2, rfl, hh6, hge, hb6⟩; rw [hbx] at hh6)
              go_roundw
              case rel =>
                refine ⟨k + 1, ga2, blockF hc ((zs.drop (64 * k)).take 64), by omega, by go_num, rfl, hh6, blockF_len _ _ hl8, Lib.hid ?_, hB.trans (hb6.mono hB.size)⟩
                rw [show 64 * (k + 1) = 64 * k + 64 by omega, ← List.drop_drop, ← comp_more _ _ (by rw [List.length_drop]; omega)]
                exact hr.out
              case measure => simp [intOf]; omega
            · have hk2 : 64 * k = zs.length := by omega
              have hr1 := hr.out
              rw [hk2, List.drop_length, comp_done _ _ (by decide)] at hr1
              subst hr1
              clear hr
              go_wp2
              go_meet
              case rel => exact ⟨ga, rfl, hh, hl8, hB⟩
        case rest =>
          clear hh hB hr
          obtain ⟨ga, rfl, hh, hl8, hB⟩ := hcut
          obtain ⟨hc, hhc⟩ : ∃ hc, Hid (hc = r.1) := ⟨_, Lib.hid rfl⟩
          rw [← hhc.out] at hh hl8
          obtain ⟨w4, hmk4, hO4, hg4⟩ := run_make_own (P := Try.prog) wc w.heap.size 24 5 u8i (.int .u8 0) 1 Try.underlying24 info_u8i rfl rfl .i64 .i64 32 (by decide) (by decide) hB.size
          replace hmk4 : (Instr.makeSlice 24 (.int .i64 0) (.int .i64 32)).run Try.prog wc = .ok (.slice (some ⟨wc.heap.size, 0, none⟩) 0 32) w4 := hmk4
          have hB4 : Below w.heap.size w w4 := pw_below_grown hB none hB.size hg4 (by simp)
          have hh4 : w4.heap[ga]? = some (.cells (ws hc) 108 (0, 0)) := (hg4.block ga (blk_lt hh) (by simp)).trans hh
          go_upto_block 6 with fail
          clear hmk4 hg4 hB hh
          go_cut [12] (fun s12 w' => ∃ v12 : Value, s12 = v12 ∧ w'.ownsRow w.heap.size 5 1 v12 (outBytes hc).length (nums .u8 (outBytes hc)) ∧ Below w.heap.size w w')
          case first =>
            go_wp2
            go_loopw [12, 14, 76] (fun s12 _ i wr => ∃ (k : Nat) (v12 : Value), k ≤ 8 ∧ s12 = v12 ∧ i = .int .i64 k ∧ wr.heap[ga]? = some (.cells (ws hc) 108 (0, 0)) ∧ wr.ownsRow w.heap.size 5 1 v12 (outBytes (hc.take k)).length (nums .u8 (outBytes (hc.take k))) ∧ Below w.heap.size w wr)
              (fun _ _ i _ => (8 - intOf i).toNat)
            case atStart => exact ⟨0, _, Nat.zero_le _, rfl, rfl, hh4, hO4, hB4⟩
            case round =>
              clear hB4 hh4 hO4
              obtain ⟨k, v12, hk, rfl, rfl, hh, hO, hB⟩ := hrel
              obtain ⟨A7, c7, rfl⟩ := own_slice hO
              by_cases hlt : k < 8
              · have q0 : (k : Int) < 8 := by omega
                have hg := (blk_cell hh k).trans (ws_get hc k (by omega))
                have hBw : w.heap.size ≤ wr.heap.size := hB.size
                have hll3 : (outBytes (hc.take k)).length ≤ 32 := by rw [outBytes_len, List.length_take]; omega
                have hll2 : outBytes (hc.take k) ++ wbytes (rd hc k) = outBytes (hc.take (k + 1)) := outBytes_step hc k (by omega)
                generalize (outBytes (hc.take k)) = xs at *
                generalize rd hc k = y at *
                have HL := reads_lit wr 5 (wbytes y) (by simp [wbytes])
                go_wp2_with (at_builtin; refine print_append_row (w0 := w) w.heap.size rfl (.tmp 80) (.tmp 92) 24 5 .u8 1 rfl Try.underlying24 info_u8 (by decide) (.slice A7 xs.length c7) xs (wbytes y) _ 4 4 rfl rfl (hO.alloc _) HL (hB.alloc hBw _) (by simp; omega) (by omega) ?_; intro v7 w7 hO7 hB7 hg7 hat7; rw [hll2] at hO7; have hh7 := blk_grown (blk_alloc hh _) hg7 (fun e => own_apart hO hh (by decide) ga e.symm rfl))
                go_roundw
                case rel => exact ⟨k + 1, _, by omega, rfl, by go_num, hh7, hO7, hB7⟩
                case measure => simp [intOf]; omega
              · have hk8 : k = 8 := by omega
                subst hk8
                go_wp2
                go_meet
                case rel => exact ⟨_, rfl, by rw [List.take_of_length_le (by omega)] at hO ⊢; exact hO, hB⟩
          case rest =>
            clear hB4 hh4 hO4
            obtain ⟨v12, rfl, hO, hB⟩ := hcut
            have hcv := own_string (P := Try.prog) Try.underlying24 Try.underlying5 Try.underlying9 hO
            go_wp2
            go_ret
            exact ⟨by rw [hz.out, ← hhc.out]; rfl, hB⟩
end Go.Proofs.Ytilehfdplgciiaa.Hand
