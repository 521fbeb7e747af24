import Derived.Test.YtilehfdplgciiaaProg
import Derived.Test.YtilehfdplgciiaaMem
import Derived.WalkKit
import Derived.KernelRfl
import Derived.Outline
import Derived.StillTailTactics
import Derived.Lib.Hide
import Derived.Deep.DeepCutAuto
/-! ots.Digits: a digest's digits, walked. -/
namespace Go.Proofs.Ytilehfdplgciiaa.Hand
open Go.RowKit Go.Proofs.YtilehfdplgciiaaW.PrintWords
set_option linter.unusedVariables false

def nib2 (x : Int) : List Int := [x / 16, x % 16]
/-- A row of bytes, as digits. -/
def nibs (b : List Int) : List Int := (b.map nib2).flatten
def lack (x : Int) : Int := 15 - x / 16 + 15 - x % 16
/-- How much the digits lack. -/
def short (b : List Int) : Int := (b.map lack).sum
def tail3 (s : Int) : List Int := [s / 256, s / 16 % 16, s % 16]
def digits (b : List Int) : List Int := nibs b ++ tail3 (short b)
theorem info_int : (Try.prog.info? 3).map (fun i => (i.zero, i.size, i.bytes)) = some (some (.int .i64 0), 1, 8) := by kernel_rfl
theorem reads_litk (W : World) (e : TypeId) (k : IntKind) (xs : List Int) (hm : xs.length ≤ 9223372036854775807) : ReadsInt (W.alloc (.cells (nums k xs).toArray e)) k (some ⟨W.heap.size, 0, none⟩) xs.length xs := by
  obtain ⟨A, c, h1, h2⟩ := own_reads (own_lit W W.heap.size e k xs (Nat.le_refl _) hm)
  injection h1 with h1
  subst h1
  exact h2
theorem nibs_step (b : List Int) (k : Nat) (hk : k < b.length) : nibs (b.take k) ++ nib2 (rd b k) = nibs (b.take (k + 1)) := by
  unfold nibs
  rw [List.take_succ_eq_append_getElem hk, List.map_append, List.flatten_append]
  congr 1
  simp [rd, hk]
theorem short_step (b : List Int) (k : Nat) (hk : k < b.length) : short (b.take k) + lack (rd b k) = short (b.take (k + 1)) := by
  unfold short
  rw [List.take_succ_eq_append_getElem hk, List.map_append, List.sum_append]
  simp [rd, hk]
theorem nibs_len (b : List Int) : (nibs b).length = 2 * b.length := by
  unfold nibs
  induction b with
  | nil => rfl
  | cons x t ih => rw [List.map_cons, List.flatten_cons, List.length_append, ih, List.length_cons]; show 2 + _ = _; omega
theorem i64_and15 (n : Int) : Go.bits .and .i64 n 15 = n % 16 := by
  have h15 : (BitVec.ofInt 64 15).toNat = 2 ^ 4 - 1 := by decide
  have key : (BitVec.ofInt 64 n &&& BitVec.ofInt 64 15).toNat = (n % ((2 ^ 64 : Nat) : Int)).toNat % 2 ^ 4 := by
    rw [BitVec.toNat_and, BitVec.toNat_ofInt, h15, Nat.and_two_pow_sub_one_eq_mod]
  show IntKind.i64.wrap ((BitVec.ofInt 64 n &&& BitVec.ofInt 64 15).toNat : Nat) = n % 16
  rw [key, IntKind.wrap_i64]
  omega
def ots_Digits.f (a0 : ByteArray) : Option (List Int × Int) := if a0.size = 16 then some (digits (bytesOf a0), 0) else some ([], 7)
set_option maxHeartbeats 400000 in
set_option maxRecDepth 100000 in
theorem ots_Digits.calls (a0 : ByteArray) (r1 : List Int) (r2 : Int) (w : World) (h : ots_Digits.f a0 = some (r1, r2)) :
    Calls Try.prog 23 #[.string a0] w fun e w' => ∃ v0_ : Value, e = .returned (.tuple #[v0_, .int .i64 r2]) ∧ Kd.R (Kd.int .i64) 3 w' w.heap.size (fun _ => True) v0_ r1 ∧ Below w.heap.size w w' := by
  unfold ots_Digits.f at h
  go_enter Try.func23, Try.ntmps23
  by_cases hs : a0.size = 16
  · rw [if_pos hs] at h
    obtain ⟨rfl, rfl⟩ := Prod.mk.inj (Option.some.inj h)
    clear h
    have kb := fun W => print_bytes (P := Try.prog) 9 24 5 Try.underlying9 Try.underlying24 Try.underlying5 a0 W
    have hR := bytes_reads w 5 a0 (by omega)
    have hbl := bytesOf_length a0
    have hB := bytes_below (Below.refl w.heap.size w) (Nat.le_refl _) 5 a0
    rw [hs] at kb hR hbl
    have hne : ((a0.size : Int) != 16) = false := by simp [hs]
    have hbr : ∀ j : Nat, j < 16 → 0 ≤ rd (bytesOf a0) j ∧ rd (bytesOf a0) j ≤ 255 := fun j _ => by rw [rd_bytesOf]; exact bt_range _ _
    generalize bytesOf a0 = b at *
    have hrg := hbr
    have HRG := Lib.hid hrg
    clear hbr hrg
    go_upto_block 0 with fail
    have hsz : w.heap.size ≤ (Lib.bytesWorld w 5 a0).heap.size := hB.size
    generalize Lib.bytesWorld w 5 a0 = w1 at hR hB hsz ⊢
    clear kb
    go_cut [4, 5] (fun s4 s5 w' => ∃ v4 : Value, s4 = v4 ∧ s5 = .int .i64 (short b) ∧ 0 ≤ short b ∧ short b ≤ 16 * 30 ∧ w'.ownsRow w1.heap.size 3 1 v4 (nibs b).length (nums .i64 (nibs b)) ∧ Below w1.heap.size w1 w')
    case first =>
      go_wp2
      go_loopw [4, 5, 7, 8, 9, 16] (fun s4 s5 _ _ _ i wr => ∃ (k : Nat) (v4 : Value), k ≤ 16 ∧ i = .int .i64 k ∧ s4 = v4 ∧ s5 = .int .i64 (short (b.take k)) ∧ 0 ≤ short (b.take k) ∧ short (b.take k) ≤ k * 30 ∧ wr.ownsRow w1.heap.size 3 1 v4 (nibs (b.take k)).length (nums .i64 (nibs (b.take k))) ∧ Below w1.heap.size w1 wr)
        (fun _ _ _ _ _ i _ => (16 - intOf i).toNat)
      case atStart => exact ⟨0, _, Nat.zero_le _, rfl, rfl, rfl, (by simp [short]), (by simp [short]), own_nil _ _ _ _, Below.refl _ _⟩
      case round =>
        obtain ⟨k, v4, hk, rfl, rfl, rfl, h0, h1, hO, hBr⟩ := hrel
        obtain ⟨A4, c4, rfl⟩ := own_slice hO
        by_cases hlt : k < 16
        · have hRr := hR.below hBr
          obtain ⟨ad, ha, hc⟩ := hRr.at_ (k : Int) (by omega) (by omega)
          injection ha with ha
          subst ha
          rw [add_plain, Int.toNat_natCast] at hc
          have q0 : (k : Int) < 16 := by omega
          have hBw := hBr.size
          have hst := short_step b k (by omega)
          have hnt := nibs_step b k (by omega)
          have hxr := HRG.out k (by omega)
          have hxl : (nibs (b.take k)).length ≤ 32 := by rw [nibs_len, List.length_take]; omega
          unfold lack at hst
          generalize rd b k = x at *
          have d1 : 0 ≤ x / 16 := by omega
          have d2 : x / 16 ≤ 15 := by omega
          have d3 : 0 ≤ x % 16 := by omega
          have d4 : x % 16 ≤ 15 := by omega
          have HL := reads_litk wr 3 .i64 (nib2 x) (by simp [nib2])
          generalize short (b.take k) = s at *
          generalize nibs (b.take k) = xs at *
          go_wp2_with (at_builtin; refine print_append_row (w0 := w1) w1.heap.size rfl (.tmp 26) (.tmp 29) 27 3 .i64 8 rfl Try.underlying27 info_int (by decide) (.slice A4 xs.length c4) xs (nib2 x) _ 2 2 rfl rfl (hO.alloc _) HL (hBr.alloc hBw _) (by simp; omega) (by omega) ?_; intro v7 w7 hO7 hB7 hg7 hat7; rw [hnt] at hO7)
          go_roundw
          case rel => exact ⟨k + 1, _, by omega, by go_num, rfl, rfl, by omega, by omega, hO7, hB7⟩
          case measure => simp [intOf]; omega
        · have hk2 : k = 16 := by omega
          subst hk2
          go_wp2
          go_meet
          case rel => exact ⟨_, rfl, by rw [List.take_of_length_le (by omega)], by rw [List.take_of_length_le (by omega)] at h0; exact h0, by rw [List.take_of_length_le (by omega)] at h1; exact h1, by rw [List.take_of_length_le (by omega)] at hO ⊢; exact hO, hBr⟩
    case rest =>
      obtain ⟨v4, rfl, rfl, h0, h1, hO, hBr⟩ := hcut
      obtain ⟨A4, c4, rfl⟩ := own_slice hO
      have HD := Lib.hid (show digits b = nibs b ++ tail3 (short b) from rfl)
      generalize short b = s at *
      have hb1 : Go.bits .and .i64 (s / 16) 15 = s / 16 % 16 := i64_and15 _
      have hb2 : Go.bits .and .i64 s 15 = s % 16 := i64_and15 _
      have hxl : (nibs b).length ≤ 32 := by rw [nibs_len]; omega
      generalize nibs b = xs at *
      have hBw := hBr.size
      have HL := reads_litk wc 3 .i64 (tail3 s) (by simp [tail3])
      go_wp2_with (at_builtin; refine print_append_row (w0 := w1) w1.heap.size rfl (.tmp 39) (.tmp 47) 27 3 .i64 8 rfl Try.underlying27 info_int (by decide) (.slice A4 xs.length c4) xs (tail3 s) _ 3 3 rfl rfl (hO.alloc _) HL (hBr.alloc hBw _) (by simp; omega) (by omega) ?_; intro v7 w7 hO7 hB7 hg7 hat7)
      exact bodyPost_ret (v := .tuple #[v7, .int .i64 0]) (by simp [results, Try.results23, go_sem]) rfl ⟨v7, rfl, Kd.R_of_own (own_weaken (by rw [HD.out]; exact hO7) hsz) (fun _ _ => trivial), hB.trans (hB7.mono hsz)⟩
  · rw [if_neg hs] at h
    obtain ⟨rfl, rfl⟩ := Prod.mk.inj (Option.some.inj h)
    have hne : ((a0.size : Int) != 16) = true := by simp; omega
    go_wp2
    exact bodyPost_ret (v := .tuple #[.slice none 0 0, .int .i64 7]) (by simp [results, Try.results23, go_sem]) rfl ⟨_, rfl, Kd.R_of_own (own_nil _ _ _ _) (fun _ _ => trivial), Below.refl _ _⟩
end Go.Proofs.Ytilehfdplgciiaa.Hand
