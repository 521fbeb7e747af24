import Derived.Test.YtilehfdplgciiaaSgB
/-! Load's errors, what the reference saves, and what Load accepts. -/
namespace Go.Proofs.Ytilehfdplgciiaa.Hand
open Go.RowKit Go.Proofs.YtilehfdplgciiaaW.PrintWords Go.Proofs.Ytilehfdplgciiaa.PLM Go.Proofs.Ytilehfdplgciiaa.Plain Go.Proofs.YtilehfdplgciiaaW.PrintMore
set_option linter.unusedVariables false
attribute [local go_sem ↓] Go.wp_at_zero Go.wp_at_succ

set_option maxRecDepth 100000 in
theorem load_size (w : World) (b : ByteArray) (hb : b.size ≠ 41) (hz : b.size ≤ 1000) :
    Calls Try.prog 38 #[.string b] w fun e w' => e = .returned (.tuple #[.pointer none, .int .i64 7]) ∧ w = w' := by
  have h1 : ((b.size : Int) != 41) = true := by simp; omega
  clear hb
  go_enter Try.func38, Try.ntmps38
  go_wp2
  go_ret2
  exact ⟨rfl, rfl⟩
set_option maxRecDepth 100000 in
theorem load_head (w : World) (b : ByteArray) (hb : b.size = 41) (hp : b.extract 0 4 ≠ ⟨#[75, 69, 89, 49]⟩) :
    Calls Try.prog 38 #[.string b] w fun e w' => e = .returned (.tuple #[.pointer none, .int .i64 7]) ∧ w = w' := by
  have hbi : (b.size : Int) = 41 := by omega
  have hne := (bool_of (a := b.extract 0 4) (b := ⟨#[75, 69, 89, 49]⟩)).2 hp
  have hk : (⟨#[75, 69, 89, 49]⟩ : ByteArray).toList = [75, 69, 89, 49] := by rw [ByteArray.toList_eq]
  rw [hk] at hne
  obtain ⟨hne1, hne2⟩ := hne
  clear hb hp hk
  go_enter Try.func38, Try.ntmps38
  go_wp2
  go_ret2
  exact ⟨rfl, rfl⟩
set_option maxHeartbeats 1000000 in
set_option maxRecDepth 100000 in
theorem load_err (w : World) (b s : ByteArray) (h n : Int) (hb : b.size = 41) (hp : b.extract 0 4 = ⟨#[75, 69, 89, 49]⟩) (hs : b.extract 4 36 = s) (hh : bt b 36 = h) (hn : lfP (b.extract 37 41) 4 = n) (hat : ∀ W : World, Calls Try.prog 57 #[.string s, .int .i64 h, .int .i64 n] W fun e w' => e = .returned (.tuple #[.pointer none, .int .i64 1]) ∧ Below W.heap.size W w') :
    Calls Try.prog 38 #[.string b] w fun e w' => e = .returned (.tuple #[.pointer none, .int .i64 7]) ∧ Below w.heap.size w w' := by
  have hh0 : 0 ≤ h ∧ h ≤ 255 := by rw [← hh]; exact bt_range b 36
  obtain ⟨hh1, hh2⟩ := hh0
  have hxz : (b.extract 37 41).size = 4 := by rw [ByteArray.size_extract]; omega
  have kb := fun W => print_bytes (P := Try.prog) 9 24 5 Try.underlying9 Try.underlying24 Try.underlying5 (b.extract 37 41) W
  have hR := bytes_reads w 5 (b.extract 37 41) (by omega)
  have hB := bytes_below (Below.refl w.heap.size w) (Nat.le_refl _) 5 (b.extract 37 41)
  have hbt2 : ∀ k : Nat, k < 4 → rd (bytesOf (b.extract 37 41)) (k : Int) = bt (b.extract 37 41) (k : Int) := fun k hk => rd_bytesOf _ _
  have HBT := Lib.hid hbt2
  have HAT := Lib.hid hat
  have HN := Lib.hid hn
  have heq1 : ((b.extract 0 4).toList == [75, 69, 89, 49]) = true := by rw [hp, ByteArray.toList_eq]; rfl
  have hbi : (b.size : Int) = 41 := by omega
  rw [hxz] at kb hR
  clear hbt2 hxz hat hn hp
  generalize bytesOf (b.extract 37 41) = xs at *
  go_enter Try.func38, Try.ntmps38
  go_upto_block 0 with fail
  have HR := Lib.hid hR
  have HB := Lib.hid hB
  clear hR hB kb
  generalize Lib.bytesWorld w 5 (b.extract 37 41) = w1 at *
  generalize b.extract 37 41 = c4 at *
  go_wp2
  go_loopw [5, 7, 26] (fun s5 _ s26 wr => ∃ k : Nat, k ≤ 4 ∧ s26 = .int .i64 k ∧ s5 = .int .i64 (lfP c4 k) ∧ Below w1.heap.size w1 wr) (fun _ _ s26 _ => (4 - intOf s26).toNat)
  case atStart => exact ⟨0, Nat.zero_le _, rfl, rfl, Below.refl _ _⟩
  case round =>
    obtain ⟨k, hk, rfl, rfl, hBr⟩ := hrel
    by_cases hlt4 : k < 4
    · obtain ⟨ad, ha, hc⟩ := (HR.out.below hBr).at_ (k : Int) (by omega) (by omega)
      injection ha with ha
      subst ha
      rw [add_plain, Int.toNat_natCast, HBT.out k hlt4] at hc
      have hr := lfP_range c4 k
      have hr4 : (256 : Int) ^ k ≤ 256 ^ 3 := by
        have := Nat.pow_le_pow_right (show 0 < 256 by decide) (show k ≤ 3 by omega)
        have e := Int.ofNat_le.2 this
        simpa using e
      have hb := bt_range c4 (k : Int)
      have q0 : (k : Int) < 4 := by omega
      have hx := lfP_range c4 k
      have hor := or_byte (lfP c4 k) (bt c4 (k : Int)) hx.1 (by omega) hb.1 hb.2
      have hnx : lfP c4 (k + 1) = lfP c4 k * 256 + bt c4 (k : Int) := rfl
      have HNX := Lib.hid hnx
      have hx0 := hx.1
      have hx1 : lfP c4 k < 16777216 := by omega
      have hb0 := hb.1
      have hb1 := hb.2
      clear hr hr4 hx hb hnx
      have HBr := Lib.hid hBr
      clear hBr
      generalize lfP c4 k = x at *
      generalize bt c4 (k : Int) = c at *
      go_wp2
      go_roundw
      case rel => exact ⟨k + 1, by omega, by go_num, by rw [HNX.out], HBr.out⟩
      case measure => simp [intOf]; omega
    · obtain rfl : k = 4 := by omega
      have hBw := HB.out.trans (hBr.mono HB.out.size)
      have HBw := Lib.hid hBw
      clear hBr hBw
      obtain ⟨x, hx⟩ : ∃ x, x = lfP c4 4 := ⟨_, rfl⟩
      rw [← hx]
      obtain rfl : x = n := by rw [hx, HN.out]
      clear hx
      have hwh : IntKind.i64.wrap h = h := IntWalk.i64_in _ (by omega)
      have l36 : 36 < b.size := by omega
      have hbx : ((b[36]'l36).toNat : Int) = h := (bt_at b 36 l36).trans hh
      clear hh heq1
      go_upto_region 10 with fail
      go_region_held3 (fun w' => True) (first | trivial | go_keep) ((go_at_call 57; refine (HAT.out _).mono ?_; rintro e w5 ⟨rfl, hb5⟩; have HB5 := Lib.hid hb5; clear hb5))
      go_wp2
      go_ret2
      have hz := Nat.le_trans HBw.out.size (below_drew (Below.refl wr.heap.size wr)).size
      exact ⟨rfl, (below_drew HBw.out).trans (HB5.out.mono hz)⟩
/-! ### What was accepted is what is saved again -/
theorem bt_ex (s : ByteArray) (a e k : Nat) (h : a + k < e) (he : e ≤ s.size) : bt (s.extract a e) (k : Int) = bt s ((a + k : Nat) : Int) := by
  rw [← rd_bytesOf, ← rd_bytesOf, bytesOf_extract]
  unfold rd
  rw [Int.toNat_natCast, Int.toNat_natCast, List.getD_eq_getElem?_getD, List.getD_eq_getElem?_getD]
  simp only [List.getElem?_take, List.getElem?_drop]
  split <;> first | rfl | omega
theorem list_five (xs : List Int) (h : xs.length = 5) : xs = [rd xs 0, rd xs 1, rd xs 2, rd xs 3, rd xs 4] := by
  match xs, h with
  | [a, b, c, d, e], _ => rfl
theorem saved_back (b : ByteArray) (h n : Nat) (hb : b.size = 41) (hp : b.extract 0 4 = ⟨#[75, 69, 89, 49]⟩) (hh : bt b 36 = (h : Int)) (hn : lfP (b.extract 37 41) 4 = (n : Int)) (hn2 : n ≤ 255) : saveS (b.extract 4 36) h n = b := by
  have e1 : b = b.extract 0 4 ++ b.extract 4 36 ++ b.extract 36 41 := by
    apply ByteArray.ext
    have hd : b.data.size = 41 := hb
    simp [ByteArray.data_extract]
    have hx := Array.extract_size (xs := b.data)
    rw [hd] at hx
    exact hx.symm
  have e2 : bytesOf (b.extract 36 41) = [bt b 36, bt b 37, bt b 38, bt b 39, bt b 40] := by
    have hl : (bytesOf (b.extract 36 41)).length = 5 := by rw [bytesOf_length, ByteArray.size_extract, hb]; rfl
    rw [list_five _ hl, rd_bytesOf, rd_bytesOf, rd_bytesOf, rd_bytesOf, rd_bytesOf]
    have f0 := bt_ex b 36 41 0 (by decide) (by omega)
    have f1 := bt_ex b 36 41 1 (by decide) (by omega)
    have f2 := bt_ex b 36 41 2 (by decide) (by omega)
    have f3 := bt_ex b 36 41 3 (by decide) (by omega)
    have f4 := bt_ex b 36 41 4 (by decide) (by omega)
    simp only [Nat.reduceAdd] at f0 f1 f2 f3 f4
    exact congr (congrArg List.cons f0) (congr (congrArg List.cons f1) (congr (congrArg List.cons f2) (congr (congrArg List.cons f3) (congrArg (fun x => [x]) f4))))
  have hl : lfP (b.extract 37 41) 4 = ((bt b 37 * 256 + bt b 38) * 256 + bt b 39) * 256 + bt b 40 := by
    have f0 := bt_ex b 37 41 0 (by decide) (by omega)
    have f1 := bt_ex b 37 41 1 (by decide) (by omega)
    have f2 := bt_ex b 37 41 2 (by decide) (by omega)
    have f3 := bt_ex b 37 41 3 (by decide) (by omega)
    show (((0 * 256 + bt (b.extract 37 41) ((0 : Nat) : Int)) * 256 + bt (b.extract 37 41) ((1 : Nat) : Int)) * 256 + bt (b.extract 37 41) ((2 : Nat) : Int)) * 256 + bt (b.extract 37 41) ((3 : Nat) : Int) = _
    rw [f0, f1, f2, f3, Int.zero_mul, Int.zero_add]
    rfl
  have r0 := bt_range b 37
  have r1 := bt_range b 38
  have r2 := bt_range b 39
  have r3 := bt_range b 40
  rw [hn] at hl
  have w0 : IntKind.u8.wrap ((n : Int) / 16777216) = bt b 37 := by rw [show (n : Int) / 16777216 = bt b 37 by omega]; exact u8_small _ r0.1 r0.2
  have w1 : IntKind.u8.wrap ((n : Int) / 65536) = bt b 38 := by rw [show (n : Int) / 65536 = bt b 38 by omega]; exact u8_small _ r1.1 r1.2
  have w2 : IntKind.u8.wrap ((n : Int) / 256) = bt b 39 := by rw [show (n : Int) / 256 = bt b 39 by omega]; exact u8_small _ r2.1 r2.2
  have w3 : IntKind.u8.wrap (n : Int) = bt b 40 := by rw [show (n : Int) = bt b 40 by omega]; exact u8_small _ r3.1 r3.2
  unfold saveS
  rw [← hp, w0, w1, w2, w3, ← hh, ← e2, strOfNums_bytesOf]
  exact e1.symm
/-- What the reference saves is what a signer saves. -/
theorem rsave_any (w : World) (s : ByteArray) (h n : Nat) (hs : s.size = 32) (h8 : h ≤ 255) :
    Calls Try.prog 36 #[.string s, .int .i64 h, .int .i64 n] w fun e w' => e = .returned (.string (saveS s h n)) ∧ Below w.heap.size w w' := by
  have he : (⟨#[75, 69, 89, 49]⟩ : ByteArray) ++ s ++ b1 (h : Int) ++ b4 (n : Int) = saveS s h n := by
    unfold saveS b1 b4
    rw [ByteArray.append_assoc]
    congr 1
    have u8 : ∀ x : Int, IntKind.u8.wrap x = x % 256 := fun x => by unfold IntKind.wrap; simp [IntKind.bits, IntKind.signed]
    rw [u8, u8, u8, u8, show (h : Int) % 256 = (h : Int) by omega]
    rfl
  have HE := Lib.hid he
  have z1 : 4 + s.size ≤ 9223372036854775807 := by omega
  have z2 : ((⟨#[75, 69, 89, 49]⟩ : ByteArray) ++ s).size + (b1 (h : Int)).size ≤ 9223372036854775807 := by rw [ByteArray.size_append, b1_size]; show 4 + s.size + 1 ≤ _; omega
  have z3 : ((⟨#[75, 69, 89, 49]⟩ : ByteArray) ++ s ++ b1 (h : Int)).size + (b4 (n : Int)).size ≤ 9223372036854775807 := by rw [ByteArray.size_append, ByteArray.size_append, b1_size, b4_size]; show 4 + s.size + 1 + 4 ≤ _; omega
  have HB1 := Lib.hid (fun W => (certpathref11_B1.calls (h : Int) (b1 (h : Int)) W rfl))
  have HB4 := Lib.hid (fun W => (certpathref11_B4.calls (n : Int) (b4 (n : Int)) W rfl))
  clear he hs h8
  generalize saveS s h n = sv at *
  generalize b1 (h : Int) = x1 at *
  generalize b4 (n : Int) = x4 at *
  go_enter Try.func36, Try.ntmps36
  go_wp2_with (first
    | (go_at_call 77; refine (HB1.out _).mono ?_; rintro e w2 ⟨rfl, hb2⟩)
    | (go_at_call 70; refine (HB4.out _).mono ?_; rintro e w3 ⟨rfl, hb3⟩))
  go_ret
  exact ⟨by rw [← HE.out]; rfl, hb2.trans (hb3.mono hb2.size)⟩
end Go.Proofs.Ytilehfdplgciiaa.Hand
