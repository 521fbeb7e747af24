import Derived.Test.YtilehfdplgciiaaLDig
import Derived.Test.YtilehfdplgciiaaStrm
import Derived.Test.YtilehfdplgciiaaApart
import Derived.Test.YtilehfdplgciiaaArrEq
import Derived.Laws.Rows
import Derived.Deep.MidRow
/-! certpathlaw11.OtsApart, walked. -/
namespace Go.Proofs.Ytilehfdplgciiaa.Hand
open Go.RowKit Go.Proofs.YtilehfdplgciiaaW.PrintWords Go.Proofs.Ytilehfdplgciiaa.PL11 Go.Proofs.Ytilehfdplgciiaa.Plain
set_option linter.unusedVariables false

theorem size_arr : (Try.prog.info? 22).map (·.size) = some 16 := by kernel_rfl
theorem nums_one (bs : List Int) : (nums .u8 bs).toArray.all (·.oneCell') = true := all_oneCell_toArray (fun v hv => by obtain ⟨x, _, rfl⟩ := List.mem_map.1 hv; rfl)
theorem arr_there {w : World} {g : Nat} {bs : List Int} (h : w.heap[g]? = some (.cells (nums .u8 bs).toArray 22 (0, 0))) (hl : bs.length = 16) : w.there g 0 (nums .u8 bs).toArray.size := by
  intro j hj
  rw [Nat.zero_add]
  refine ⟨?_, blk_frozen h j⟩
  rw [blk_cell h, Array.getElem?_eq_getElem hj]
  rfl
theorem arr_set {w : World} {g : Nat} {bs cs : List Int} (h : w.heap[g]? = some (.cells (nums .u8 bs).toArray 22 (0, 0))) (hl : bs.length = 16) (hl2 : cs.length = 16) : (w.setCells g 0 (nums .u8 cs).toArray.toList).heap[g]? = some (.cells (nums .u8 cs).toArray 22 (0, 0)) := by
  obtain ⟨cur', h1, h2, h3⟩ := setCells_row (nums .u8 cs) 0 w (nums .u8 bs).toArray h (by simp [nums, hl, hl2])
  show (w.setCells g 0 (nums .u8 cs)).heap[g]? = _
  rw [h1]
  have e : cur' = (nums .u8 cs).toArray := by
    apply Array.ext'
    rw [h3, List.drop_of_length_le (by simp [nums, hl, hl2])]
    simp
  rw [e]
theorem arr_cell {w : World} {g : Nat} {bs : List Int} (h : w.heap[g]? = some (.cells (nums .u8 bs).toArray 22 (0, 0))) (n : Nat) (hn : n < bs.length) : w.cell? ⟨g, n, none⟩ = some (.int .u8 (rd bs n)) := by
  rw [blk_cell h]
  simp [nums, rd, hn]
theorem arr_put {w : World} {g : Nat} {bs : List Int} (h : w.heap[g]? = some (.cells (nums .u8 bs).toArray 22 (0, 0))) (n : Nat) (x : Int) : (w.setCell ⟨g, n, none⟩ (.int .u8 x)).heap[g]? = some (.cells (nums .u8 (bs.set n x)).toArray 22 (0, 0)) := by
  rw [blk_set h]
  congr 2
  apply Array.ext'
  simp [nums, List.map_set]
theorem arr_text {W : World} {g : Nat} {bs : List Int} (hW : W.heap[g]? = some (.cells (nums .u8 bs).toArray 22 (0, 0))) (hl : bs.length = 16) : (convert 24 9 (.slice (some ⟨g, 0, none⟩) 16 16)).run Try.prog W = .ok (.string (strOfNums bs)) W := by
  have h1 := Kd.own_of_R (own_at (B := 0) (xs := bs) (cap := 16) (Nat.zero_le _) hW hl (by simp [maxLen]))
  rw [hl] at h1
  exact own_string Try.underlying24 Try.underlying5 Try.underlying9 h1
/-- The digits of sixteen bytes, told. -/
theorem digits_of (bs : List Int) (hl : bs.length = 16) (hw : ∀ x ∈ bs, 0 ≤ x ∧ x < 256) (W : World) : Calls Try.prog 23 #[.string (strOfNums bs)] W fun e w' => ∃ (A : Option Addr) (c : Nat), e = .returned (.tuple #[.slice A 35 c, .int .i64 0]) ∧ Kd.C (Kd.int .i64) w' A 35 (digits bs) ∧ Below W.heap.size W w' := by
  have hsz : (strOfNums bs).size = 16 := by rw [strOfNums_size]; exact hl
  have hb : bytesOf (strOfNums bs) = bs := bytesOf_strOfNums bs hw
  have hf := ots_digits_f (strOfNums bs)
  rw [if_pos hsz, hb] at hf
  have hlen : (digits bs).length = 35 := by unfold digits; rw [List.length_append, nibs_len, hl]; rfl
  refine (Given.ots_Digits.calls (strOfNums bs) _ _ W hf).mono ?_
  rintro e w' ⟨v, rfl, hR, hB⟩
  obtain ⟨A, c, rfl⟩ := Kd.R_slice hR
  have h2 := (Kd.R_reads' hR).2.2
  rw [hlen] at h2 ⊢
  exact ⟨A, c, rfl, h2, hB⟩
set_option maxHeartbeats 4000000 in
set_option maxRecDepth 100000 in
theorem otsApart_walk (xs bs : List Int) (hla : xs.length = 16) (hlb : bs.length = 16) (hwa : ∀ x ∈ xs, 0 ≤ x ∧ x < 256) (hwb : ∀ x ∈ bs, 0 ≤ x ∧ x < 256) (at_ c : Int) (ha0 : 0 ≤ at_) (ha1 : at_ ≤ 255) (hc0 : 0 ≤ c) (hc1 : c ≤ 255) (near : Bool) (w : World) :
    Calls Try.prog 4 #[.agg (nums .u8 xs).toArray, .agg (nums .u8 bs).toArray, .int .u8 at_, .int .u8 c, .bool near] w fun e w' => e = .returned (.bool true) ∧ Below w.heap.size w w' := by
  have hh1 : ((w.alloc (.cells (nums .u8 xs).toArray 22)).alloc (.cells (nums .u8 bs).toArray 22)).heap[w.heap.size]? = some (.cells (nums .u8 xs).toArray 22 (0, 0)) := by
    rw [Below.heap_alloc _ _ _ (by simp)]
    exact heap_alloc_new w _
  have hh2 : ((w.alloc (.cells (nums .u8 xs).toArray 22)).alloc (.cells (nums .u8 bs).toArray 22)).heap[w.heap.size + 1]? = some (.cells (nums .u8 bs).toArray 22 (0, 0)) := by
    have := heap_alloc_new (w.alloc (.cells (nums .u8 xs).toArray 22)) (.cells (nums .u8 bs).toArray 22)
    simpa using this
  have hB1 : Below w.heap.size w ((w.alloc (.cells (nums .u8 xs).toArray 22)).alloc (.cells (nums .u8 bs).toArray 22)) := below_alloc (below_alloc (Below.refl _ _) _) _
  have HH1 := Lib.hid hh1
  have HH2 := Lib.hid hh2
  have HB1 := Lib.hid hB1
  clear hh1 hh2 hB1
  generalize hva : (nums .u8 xs).toArray = va at *
  generalize hvb : (nums .u8 bs).toArray = vb at *
  go_enter Try.func4, Try.ntmps4
  go_upto_if 18 with fail
  subst hva hvb
  have hh1 := HH1.out
  have hh2 := HH2.out
  have hB1 := HB1.out
  clear HH1 HH2 HB1
  generalize (w.alloc (.cells (nums .u8 xs).toArray 22)).alloc (.cells (nums .u8 bs).toArray 22) = w1 at *
  go_cut [] (fun w' => ∃ cs : List Int, cs.length = 16 ∧ (∀ x ∈ cs, 0 ≤ x ∧ x < 256) ∧ w'.heap[w.heap.size]? = some (.cells (nums .u8 xs).toArray 22 (0, 0)) ∧ w'.heap[w.heap.size + 1]? = some (.cells (nums .u8 cs).toArray 22 (0, 0)) ∧ Below w.heap.size w w')
  case first =>
    cases near with
    | false =>
      go_wp2
      go_meet
      case rel => exact ⟨bs, hlb, hwb, hh1, hh2, hB1⟩
    | true =>
      generalize hga : w.heap.size = ga at *
      generalize hgb : ga + 1 = gb at *
      go_upto_region 3 with (first | (refine wpList_load_row rfl 22 (.tmp 5) rfl ga rfl 22 _ (0, 0) _ hh1 Try.underlying22 rfl (by rw [size_arr]; simp [nums, hla]) ?_) | (refine wpList_store_mid rfl 22 (.tmp 6) (.tmp 19) rfl gb 0 (nums .u8 xs).toArray rfl rfl (by have := arr_there hh2 hlb; simpa [nums, hla, hlb] using this) (by rw [size_arr]; simp [nums, hla]) (nums_one xs) ?_))
      have hn1 : (at_ % 16).toNat < xs.length := by omega
      have hm0 : 0 ≤ at_ % 16 := by omega
      have hm1 : at_ % 16 < 16 := by omega
      have hS2 := arr_set hh2 hlb hla
      have hS1 : (w1.setCells gb 0 (nums .u8 xs).toArray.toList).heap[ga]? = some (.cells (nums .u8 xs).toArray 22 (0, 0)) := (setCells_far _ 0 ga (by omega)).trans hh1
      have hSB : Below ga w (w1.setCells gb 0 (nums .u8 xs).toArray.toList) := below_cells hB1 (by omega) _ _
      replace hS1 : (w1.setCells gb 0 (nums .u8 xs)).heap[ga]? = _ := hS1
      replace hS2 : (w1.setCells gb 0 (nums .u8 xs)).heap[gb]? = _ := hS2
      replace hSB : Below ga w (w1.setCells gb 0 (nums .u8 xs)) := hSB
      generalize w1.setCells gb 0 (nums .u8 xs) = w2 at hS1 hS2 hSB ⊢
      clear hh1 hh2 hB1
      have hS1' := Lib.hid hS1
      have hS2' := Lib.hid hS2
      have hSB' := Lib.hid hSB
      have hcc := arr_cell hS2 (at_ % 16).toNat hn1
      have hcf := blk_frozen hS2 (at_ % 16).toNat
      clear hS1 hS2 hSB
      go_wp2
      go_meet
      case rel =>
        exact ⟨xs.set (at_ % 16).toNat c, by rw [List.length_set]; exact hla, fun x hx => by
          rcases List.mem_or_eq_of_mem_set hx with h1 | h1
          · exact hwa x h1
          · omega, (Below.heap_setCell w2 _ _ ga (show ga ≠ gb by omega)).trans hS1'.out, arr_put hS2'.out _ _, hSB'.out.setCell (show ga ≤ gb by omega) _⟩
  case rest =>
    obtain ⟨cs, hlc, hwc, hg1, hg2, hB⟩ := hcut
    clear hh1 hh2 hB1
    have hgt : Try.prog.eqGuardType Try.prog.depth 22 = false := by kernel_rfl
    have hlen1 : (digits xs).length = 35 := by unfold digits; rw [List.length_append, nibs_len, hla]; rfl
    have hlen2 : (digits cs).length = 35 := by unfold digits; rw [List.length_append, nibs_len, hlc]; rfl
    have HB := Lib.hid hB
    have HL1 := Lib.hid hlen1
    have HL2 := Lib.hid hlen2
    have HG1 := Lib.hid hg1
    have HG2 := Lib.hid hg2
    have HC := Lib.hid hlc
    have HLA := Lib.hid hla
    have hsz := blk_lt hg2
    clear hB hlen1 hlen2 hg1 hg2 hlc hla hlb hwb
    have HWA := Lib.hid hwa
    have HWC := Lib.hid hwc
    clear hwa hwc
    generalize hga : w.heap.size = ga at *
    generalize hgb : ga + 1 = gb at *
    have HE := Lib.hid (fun W : World => eq_arr xs cs HLA.out HC.out W)
    have HT1 := Lib.hid (fun (W : World) (h : W.heap[ga]? = _) => arr_text (W := W) h HLA.out)
    have HT2 := Lib.hid (fun (W : World) (h : W.heap[gb]? = _) => arr_text (W := W) h HC.out)
    have HI1 := Lib.hid (show (Try.prog.info? 22).map (·.size) = some (nums .u8 xs).toArray.size by rw [size_arr]; simp [nums, HLA.out])
    have HI2 := Lib.hid (show (Try.prog.info? 22).map (·.size) = some (nums .u8 cs).toArray.size by rw [size_arr]; simp [nums, HC.out])
    generalize (nums .u8 xs).toArray = va at *
    generalize (nums .u8 cs).toArray = vb at *
    by_cases hne : xs = cs
    · have keq : ∀ W : World, (Op.equalIn 10000 22 (.agg va) (.agg vb)).run Try.prog W = .ok true W := fun W => by rw [HE.out W, decide_eq_true hne]
      go_wp2_with (first | (refine wpList_load_row rfl 22 (.tmp 5) rfl ga rfl 22 _ (0, 0) _ HG1.out Try.underlying22 rfl HI1.out ?_) | (refine wpList_load_row rfl 22 (.tmp 6) rfl gb rfl 22 _ (0, 0) _ HG2.out Try.underlying22 rfl HI2.out ?_) | (go_at_call 21; refine (awake11 _).mono ?_; rintro e w2 ⟨rfl, hb2⟩))
      go_ret
      subst hga
      exact ⟨rfl, HB.out.trans (hb2.mono (by omega))⟩
    · have keq : ∀ W : World, (Op.equalIn 10000 22 (.agg va) (.agg vb)).run Try.prog W = .ok false W := fun W => by rw [HE.out W, decide_eq_false hne]
      have k1 := HT1.out _ HG1.out
      go_upto_region 7 with (first | (refine wpList_load_row rfl 22 (.tmp 5) rfl ga rfl 22 _ (0, 0) _ HG1.out Try.underlying22 rfl HI1.out ?_) | (refine wpList_load_row rfl 22 (.tmp 6) rfl gb rfl 22 _ (0, 0) _ HG2.out Try.underlying22 rfl HI2.out ?_) | (go_at_call 23; refine (digits_of xs HLA.out HWA.out _).mono ?_; rintro e w3 ⟨A1, c1, rfl, hC1, hb3⟩; have HC1 := Lib.hid hC1; clear hC1))
      have k2 := HT2.out _ ((hb3.block gb hsz).trans HG2.out)
      clear k1 keq
      go_wp2_with (go_at_call 23; refine (digits_of cs HC.out HWC.out _).mono ?_; rintro e w4 ⟨A2, c2, rfl, hC2, hb4⟩; have HC2 := Lib.hid hC2; clear hC2)
      have L1 := lessB_all (show xs.length = cs.length by rw [HLA.out, HC.out]) hne
      have L2 := lessB_all (show cs.length = xs.length by rw [HLA.out, HC.out]) (fun h => hne h.symm)
      rw [HL1.out] at L1
      rw [HL2.out] at L2
      have HD1 := Lib.hid L1
      have HD2 := Lib.hid L2
      clear L1 L2 k2 HL1 HL2
      generalize digits xs = X at *
      generalize digits cs = Y at *
      clear HE HT1 HT2 HI1 HI2 HG1 HG2 hgt
      go_loopw [15, 16, 17, 58] (fun s15 s16 _ s58 wq => ∃ (j : Nat), j ≤ 35 ∧ s15 = .bool (lessB X Y j) ∧ s16 = .bool (lessB Y X j) ∧ s58 = .int .i64 j ∧ Below w4.heap.size w4 wq) (fun _ _ _ s58 _ => (35 - intOf s58).toNat)
      case atStart => exact ⟨0, Nat.zero_le _, rfl, rfl, rfl, Below.refl _ _⟩
      case round =>
        obtain ⟨j, hj, rfl, rfl, rfl, hBq⟩ := hrel
        by_cases hlt2 : j < 35
        · obtain ⟨ad1, ha1, hd1⟩ := Kd.at_int (Kd.C_below (Kd.C_below HC1.out hb4) hBq) (j : Int) (by omega) (by omega)
          obtain ⟨ad2, ha2, hd2⟩ := Kd.at_int (Kd.C_below HC2.out hBq) (j : Int) (by omega) (by omega)
          subst ha1 ha2
          have s1 := lessB_succ X Y j
          have s2 := lessB_succ Y X j
          have HS1 := Lib.hid s1
          have HS2 := Lib.hid s2
          clear s1 s2
          generalize rd X (j : Int) = x at *
          generalize rd Y (j : Int) = y at *
          rw [Int.toNat_natCast] at hd1 hd2
          have q1 : (j : Int) < 35 := by omega
          have q2 : (0 : Int) ≤ j := by omega
          have HBq := Lib.hid hBq
          clear hBq
          generalize lessB X Y j = l1 at *
          generalize lessB Y X j = l2 at *
          cases l1 <;> cases l2
          all_goals
            go_wp2
            go_quiet (fail)
            go_wp2
            go_roundw
            case rel => exact ⟨j + 1, by omega, by rw [HS1.out]; first | rfl | simp, by rw [HS2.out]; first | rfl | simp, by go_num, by repeat (first | exact HBq.out | apply pw_below_drewN | apply below_drew)⟩
            case measure => simp [intOf]; omega
        · have hj2 : j = 35 := by omega
          subst hj2
          rw [HD1.out, HD2.out]
          have HBq := Lib.hid hBq
          clear hBq
          go_wp2_with (go_at_call 21; refine (awake11 _).mono ?_; rintro e w5 ⟨rfl, hb5⟩)
          go_ret
          have hz3 := hb3.size
          have hz4 := hb4.size
          have hzq := HBq.out.size
          have hzb := HB.out.size
          subst hga
          exact ⟨rfl, (((HB.out.trans (hb3.mono (by omega))).trans (hb4.mono (by omega))).trans (HBq.out.mono (by omega))).trans (hb5.mono (by omega))⟩
end Go.Proofs.Ytilehfdplgciiaa.Hand
