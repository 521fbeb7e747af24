import Derived.Test.YtilehfdplgciiaaProg
import Derived.Test.YtilehfdplgciiaaPuD
import Derived.Test.YtilehfdplgciiaaPuB
import Derived.WalkKit
import Derived.KernelRfl
import Derived.Outline
import Derived.Lib.Hide
import Derived.Deep.RegionWith
import Derived.Deep.RegionHeld3
import Derived.Deep.DeepCutAuto
import Derived.Deep.QuietTactic
import Derived.BigQuiet
import Derived.BigRegion
/-! certpathlaw11.OtsDigits, walked. -/
namespace Go.Proofs.Ytilehfdplgciiaa.Hand
open Go.RowKit Go.Proofs.YtilehfdplgciiaaW.PrintWords Go.Proofs.Ytilehfdplgciiaa.PL11 Go.Proofs.Ytilehfdplgciiaa.Plain
set_option linter.unusedVariables false

def DigCalls (f : Nat) (d : ByteArray) (r1 : List Int) (r2 : Int) : Prop := ∀ W : World, Calls Try.prog f #[.string d] W fun e w' => ∃ (A : Option Addr) (c : Nat), e = .returned (.tuple #[.slice A r1.length c, .int .i64 r2]) ∧ Kd.C (Kd.int .i64) w' A r1.length r1 ∧ Below W.heap.size W w'
theorem same_digits (d : ByteArray) : ∃ r1 r2, r1.length ≤ 40 ∧ DigCalls 23 d r1 r2 ∧ DigCalls 24 d r1 r2 := by
  refine ⟨(if d.size = 16 then (digits (bytesOf d), (0 : Int)) else ([], 7)).1, (if d.size = 16 then (digits (bytesOf d), (0 : Int)) else ([], 7)).2, ?_, ?_, ?_⟩
  · split
    · have := digits_len (bytesOf d) (by rw [bytesOf_length]; assumption)
      show (digits (bytesOf d)).length ≤ 40
      omega
    · simp
  · intro W
    refine (Given.ots_Digits.calls d _ _ W (ots_digits_f d)).mono ?_
    rintro e w' ⟨v, rfl, hR, hB⟩
    obtain ⟨A, c, rfl⟩ := Kd.R_slice hR
    exact ⟨A, c, rfl, (Kd.R_reads' hR).2.2, hB⟩
  · intro W
    refine (certpathref11_Digits.calls 17 d _ _ W (ref_digits_f d 17 (by decide))).mono ?_
    rintro e w' ⟨v, rfl, hR, hB⟩
    obtain ⟨A, c, rfl⟩ := Kd.R_slice hR
    exact ⟨A, c, rfl, (Kd.R_reads' hR).2.2, hB⟩
theorem awake11 (w : World) : Calls Try.prog 21 #[] w fun e w' => e = .returned (.bool true) ∧ Below w.heap.size w w' := certpathlaw11_awake.calls true w awake_f
theorem dig11 (s : ByteArray) (h : s.size ≤ 1000) (w : World) : Calls Try.prog 22 #[.string s] w fun e w' => e = .returned (.string (dig s)) ∧ Below w.heap.size w w' := certpathlaw11_digest.calls s _ w (dig_f s h)

theorem strs_at {w : World} {g : Nat} {e : TypeId} {xs : List ByteArray} (hh : w.heap[g]? = some (.cells (xs.map Value.string).toArray e (0, 0))) (hm : xs.length ≤ maxLen) :
    Kd.R Kd.string e w 0 (fun _ => True) (.slice (some ⟨g, 0, none⟩) xs.length xs.length) xs := by
  refine Kd.R_of_own ⟨by simp [encs], .inr ⟨g, xs.length, (xs.map Value.string).toArray, rfl, Nat.zero_le _, hh, Nat.le_refl _, hm, ?_⟩⟩ (fun _ _ => trivial)
  refine ⟨by simp, ?_⟩
  show ((xs.map Value.string).take (xs.length * 1)) = xs.map Value.string
  exact List.take_of_length_le (by rw [List.length_map, Nat.mul_one]; exact Nat.le_refl _)
set_option maxHeartbeats 400000 in
set_option maxRecDepth 100000 in
theorem otsDigits_walk (s : ByteArray) (bs : List Int) (hl : bs.length = 16) (hw : ∀ x ∈ bs, 0 ≤ x ∧ x < 256) (w : World) :
    Calls Try.prog 3 #[.string s, .agg (nums .u8 bs).toArray] w fun e w' => e = .returned (.bool true) ∧ Below w.heap.size w w' := by
  by_cases h60 : s.size ≤ 60
  · have hO : ∀ W : World, W.heap[w.heap.size]? = some (.cells (nums .u8 bs).toArray 22 (0, 0)) → (convert 24 9 (.slice (some ⟨w.heap.size, 0, none⟩) 16 16)).run Try.prog W = .ok (.string (strOfNums bs)) W := by
      intro W hW
      have h1 := Kd.own_of_R (own_at (B := 0) (xs := bs) (cap := 16) (Nat.zero_le _) hW hl (by simp [maxLen]))
      rw [hl] at h1
      exact own_string Try.underlying24 Try.underlying5 Try.underlying9 h1
    have HO := Lib.hid hO
    clear hO
    generalize hv : (nums .u8 bs).toArray = cs at *
    go_enter Try.func3, Try.ntmps3
    go_upto_region 3 with fail
    have hh := heap_alloc_new w (.cells cs 22)
    have hB1 : Below w.heap.size w (w.alloc (.cells cs 22)) := below_alloc (Below.refl _ _) _
    have hz1 : w.heap.size < (w.alloc (.cells cs 22)).heap.size := by simp
    generalize w.alloc (.cells cs 22) = w1 at *
    have k1 := HO.out w1.drew hh
    have HB1 := Lib.hid hB1
    have HH := Lib.hid hh
    clear hB1 hh
    go_cut [21, 22, 23] (fun s21 s22 s23 w' => ∃ A c, s21 = .slice A 3 c ∧ s22 = .int .i64 3 ∧ s23 = .int .i64 0 ∧ Kd.C Kd.string w' A 3 [s, strOfNums bs, dig s] ∧ Below w.heap.size w w')
    case first =>
      go_region_with (go_at_call 22; refine (dig11 s (by omega) _).mono ?_; rintro e w2 ⟨rfl, hb2⟩; have k2 := HO.out w2 ((hb2.block _ hz1).trans HH.out))
      all_goals
        go_wp2
        go_meet
        case rel => exact ⟨_, _, rfl, rfl, rfl, (Kd.R_reads' (strs_at (xs := [s, strOfNums bs, dig s]) (heap_alloc_new w2 _) (by simp [maxLen]))).2.2, ((below_drew HB1.out).trans (hb2.mono (Nat.le_of_lt hz1))).alloc (Nat.le_trans (Nat.le_of_lt hz1) hb2.size) _⟩
    case rest =>
      clear k1
      obtain ⟨A, c, rfl, rfl, rfl, hR, hB⟩ := hcut
      have HR := Lib.hid hR
      clear hR
      generalize [s, strOfNums bs, dig s] = xs at HR
      have HB := Lib.hid hB
      clear hB HB1 HH HO
      go_wp2
      go_loopw [6, 7, 8, 9, 10, 11, 23] (fun _ _ _ _ _ _ s23 wr => ∃ (k : Nat), k ≤ 3 ∧ s23 = .int .i64 k ∧ Below wc.heap.size wc wr) (fun _ _ _ _ _ _ s23 _ => (3 - intOf s23).toNat)
      case atStart => exact ⟨0, Nat.zero_le _, rfl, Below.refl _ _⟩
      case round =>
        obtain ⟨k, hk, rfl, hBr⟩ := hrel
        by_cases hlt : k < 3
        · obtain ⟨ad, ha, hc⟩ := Kd.at_string (Kd.C_below HR.out hBr) (k : Int) (by omega) (by omega)
          subst ha
          generalize rdOf ByteArray.empty xs (k : Int) = d at *
          rw [Int.toNat_natCast] at hc
          obtain ⟨r1, r2, hr, K1, K2⟩ := same_digits d
          have q0 : (k : Int) < 3 := by omega
          go_wp2_with (first | (go_at_call 23; refine (K1 _).mono ?_; rintro e w3 ⟨A1, c1, rfl, hC1, hb3⟩; have HC1 := Lib.hid hC1; clear hC1) | (go_at_call 24; refine (K2 _).mono ?_; rintro e w4 ⟨A2, c2, rfl, hC2, hb4⟩; have HC2 := Lib.hid hC2; clear hC2))
          go_loopw [11, 49] (fun _ s49 wq => ∃ (j : Nat), j ≤ r1.length ∧ s49 = .int .i64 j ∧ Below w4.heap.size w4 wq) (fun _ s49 _ => (r1.length - intOf s49).toNat)
          case atStart => exact ⟨0, Nat.zero_le _, rfl, Below.refl _ _⟩
          case round =>
            obtain ⟨j, hj, rfl, hBq⟩ := hrel
            by_cases hlt2 : j < r1.length
            · obtain ⟨ad1, ha1, hd1⟩ := Kd.at_int (Kd.C_below (Kd.C_below HC1.out hb4) hBq) (j : Int) (by omega) (by omega)
              obtain ⟨ad2, ha2, hd2⟩ := Kd.at_int (Kd.C_below HC2.out hBq) (j : Int) (by omega) (by omega)
              subst ha1 ha2
              generalize rd r1 (j : Int) = x at *
              rw [Int.toNat_natCast] at hd1 hd2
              have q1 : (j : Int) < r1.length := by omega
              have q2 : (0 : Int) ≤ j := by omega
              have q3 : (j : Int) ≤ 40 := by omega
              have HBq := Lib.hid hBq
              clear hBq K1 K2
              go_wp2
              go_quiet (fail)
              go_wp2
              go_roundw
              case rel => exact ⟨j + 1, by omega, by go_num, by repeat (first | exact HBq.out | apply pw_below_drewN | apply below_drew)⟩
              case measure => simp [intOf]; omega
            · have hj2 : j = r1.length := by omega
              subst hj2
              have HBq := Lib.hid hBq
              clear hBq K1 K2
              go_wp2
              go_roundw
              case rel => exact ⟨k + 1, by omega, by go_num, ((hBr.trans (hb3.mono hBr.size)).trans (hb4.mono (Nat.le_trans hBr.size hb3.size))).trans (HBq.out.mono (Nat.le_trans (Nat.le_trans hBr.size hb3.size) hb4.size))⟩
              case measure => simp [intOf]; omega
        · have hk2 : k = 3 := by omega
          subst hk2
          go_wp2_with (go_at_call 21; refine (awake11 _).mono ?_; rintro e w5 ⟨rfl, hb5⟩)
          go_ret
          exact ⟨rfl, HB.out.trans ((hBr.trans (hb5.mono hBr.size)).mono HB.out.size)⟩
  · have h61 : decide ((60 : Int) < s.size) = true := by simp; omega
    go_enter Try.func3, Try.ntmps3
    go_wp2_with (go_at_call 21; refine (awake11 _).mono ?_; rintro e w2 ⟨rfl, hb2⟩)
    go_ret
    exact ⟨rfl, (below_alloc (Below.refl _ _) _).trans (hb2.mono (by simp))⟩
end Go.Proofs.Ytilehfdplgciiaa.Hand
