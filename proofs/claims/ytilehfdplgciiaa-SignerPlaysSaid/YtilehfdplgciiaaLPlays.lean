import Derived.Test.YtilehfdplgciiaaAw13
import Derived.Test.YtilehfdplgciiaaSgB
import Derived.Test.YtilehfdplgciiaaRRef
import Derived.Test.YtilehfdplgciiaaDeck
/-! certpathlaw13.SignerPlays, walked. -/
namespace Go.Proofs.Ytilehfdplgciiaa.Hand
open Go.Proofs.YtilehfdplgciiaaW
open Go.RowKit Go.Proofs.YtilehfdplgciiaaW.PrintWords Go.Proofs.Ytilehfdplgciiaa.PLM Go.Proofs.Ytilehfdplgciiaa.Plain Go.Proofs.YtilehfdplgciiaaW.PrintMore
set_option linter.unusedVariables false
set_option linter.unusedSimpArgs false
attribute [local go_sem ↓] Go.wp_at_zero Go.wp_at_succ
attribute [local go_sem] max2_int min2_int max_two min_two

/-- What the reference saves is what a signer saves. -/
theorem rsav_any (w : World) (s : ByteArray) (h n : Nat) (hs : s.size = 32) (h8 : h ≤ 255) :
    Calls Try.prog 36 #[.string s, .int .i64 h, .int .i64 n] w fun e w' => e = .returned (.string (saveS s h n)) ∧ Below w.heap.size w w' := by
  have he : (⟨#[75, 69, 89, 49]⟩ : ByteArray) ++ s ++ b1 (h : Int) ++ b4 (n : Int) = saveS s h n := by
    unfold saveS b1 b4
    rw [ByteArray.append_assoc]
    congr 1
    have u8 : ∀ x : Int, IntKind.u8.wrap x = x % 256 := fun x => by unfold IntKind.wrap; simp [IntKind.bits, IntKind.signed]
    rw [u8, u8, u8, u8, show (h : Int) % 256 = (h : Int) by omega]
    rfl
  have HE := Lib.hid he
  have z1 : 4 + s.size ≤ 9223372036854775807 := by omega
  have z2 : ((⟨#[75, 69, 89, 49]⟩ : ByteArray) ++ s).size + (b1 (h : Int)).size ≤ 9223372036854775807 := by rw [ByteArray.size_append, b1_size]; show 4 + s.size + 1 ≤ _; omega
  have z3 : ((⟨#[75, 69, 89, 49]⟩ : ByteArray) ++ s ++ b1 (h : Int)).size + (b4 (n : Int)).size ≤ 9223372036854775807 := by rw [ByteArray.size_append, ByteArray.size_append, b1_size, b4_size]; show 4 + s.size + 1 + 4 ≤ _; omega
  have HB1 := Lib.hid (fun W => (certpathref11_B1.calls (h : Int) (b1 (h : Int)) W rfl))
  have HB4 := Lib.hid (fun W => (certpathref11_B4.calls (n : Int) (b4 (n : Int)) W rfl))
  clear he hs h8
  generalize saveS s h n = sv at *
  generalize b1 (h : Int) = x1 at *
  generalize b4 (n : Int) = x4 at *
  go_enter Try.func36, Try.ntmps36
  go_wp2_with (first
    | (go_at_call 77; refine (HB1.out _).mono ?_; rintro e w2 ⟨rfl, hb2⟩)
    | (go_at_call 70; refine (HB4.out _).mono ?_; rintro e w3 ⟨rfl, hb3⟩))
  go_ret
  exact ⟨by rw [← HE.out]; rfl, hb2.trans (hb3.mono hb2.size)⟩
/-- One byte as a string. -/
theorem conv_one (W : World) (g : Nat) (r : Int) (h : W.heap[g]? = some (.cells #[.int .u8 r] 5 (0, 0))) :
    (Go.convert 24 9 (.slice (some ⟨g, 0, none⟩) 1 1)).run Try.prog W = .ok (.string (strOfNums [r])) W := by
  refine run_convert_bytes_arg W 24 5 Try.underlying24 Try.underlying5 g 0 1 1 [r] rfl (fun i hi => ?_) 9 Try.underlying9
  obtain rfl : i = 0 := by omega
  exact (blk_cell h 0).trans rfl
/-- Rows of rows stand behind what changes blocks of other types. -/
theorem Lv.free {w w2 : World} {S : Nat → Prop} {v : Value} {xs : List (List ByteArray)} (h : Lv w (fun _ => False) v xs) (hk : Kp S w w2) (hS : ∀ i, S i → ∃ cs ty fr, w.heap[i]? = some (.cells cs ty fr) ∧ ty ≠ 9 ∧ ty ≠ 26) : Lv w2 (fun _ => False) v xs := by
  obtain ⟨b, c, rs, e, _, hh, hr⟩ := h
  have nb : ∀ (j : Nat) (xs : Array Value) (ty : TypeId), w.heap[j]? = some (.cells xs ty (0, 0)) → (ty = 9 ∨ ty = 26) → ¬ S j := by
    intro j xs ty hj hty hSj
    obtain ⟨cs, ty2, fr, h1, h2, h3⟩ := hS j hSj
    rw [hj] at h1
    injection h1 with h1
    injection h1 with _ h1
    rcases hty with rfl | rfl
    · exact h2 h1.symm
    · exact h3 h1.symm
  refine ⟨b, c, rs, e, fun h => h, (hk.block b (blk_lt hh) (nb b _ _ hh (.inr rfl))).trans hh, fun i hi => ?_⟩
  obtain ⟨u, hu, b2, c2, rs2, e2, _, hh2, hr2⟩ := hr i hi
  exact ⟨u, hu, b2, c2, rs2, e2, fun h => h, (hk.block b2 (blk_lt hh2) (nb b2 _ _ hh2 (.inl rfl))).trans hh2, hr2⟩
/-- The signer, the deck and the reference's tree in memory. -/
def SP (w : World) (gs gt gd gr : Nat) (s id : ByteArray) (h n : Nat) (v : Value) (LL : List (List ByteArray)) (l : List Int) (W : World) : Prop :=
  SS W gs gt s h n ∧ (Dk w W gd l ∧ W.heap[gr]? = some (.cells #[.string s, .string id, v] 63 (0, 0)) ∧ Lv W (fun _ => False) v LL) ∧ w.heap.size ≤ gs ∧ w.heap.size ≤ gt
theorem SP.below {w : World} {gs gt gd gr : Nat} {s id : ByteArray} {h n : Nat} {v : Value} {LL : List (List ByteArray)} {l : List Int} {W W2 : World} (j : SP w gs gt gd gr s id h n v LL l W) (hb : Below W.heap.size W W2) : SP w gs gt gd gr s id h n v LL l W2 :=
  ⟨j.1.below hb, ⟨j.2.1.1.below hb, (hb.block _ (blk_lt j.2.1.2.1)).trans j.2.1.2.1, j.2.1.2.2.kept (Kp.of_below _ hb)⟩, j.2.2⟩
theorem SP.rest {w : World} {gs gt gd gr : Nat} {s id : ByteArray} {h n : Nat} {v : Value} {LL : List (List ByteArray)} {l : List Int} {W W2 : World} {S : Nat → Prop} (j : SP w gs gt gd gr s id h n v LL l W) (hk : Kp S W W2) (hS : ∀ i, S i → w.heap.size ≤ i ∧ ∃ cs ty fr, W.heap[i]? = some (.cells cs ty fr) ∧ ty ≠ 9 ∧ ty ≠ 26 ∧ ty ≠ 100 ∧ ty ≠ 63) :
    Dk w W2 gd l ∧ W2.heap[gr]? = some (.cells #[.string s, .string id, v] 63 (0, 0)) ∧ Lv W2 (fun _ => False) v LL := by
  obtain ⟨cd, hd⟩ := j.2.1.1.blk
  have nb : ∀ (j : Nat) (xs : Array Value) (ty : TypeId), W.heap[j]? = some (.cells xs ty (0, 0)) → (ty = 100 ∨ ty = 63) → ¬ S j := by
    intro j xs ty hj hty hSj
    obtain ⟨_, cs, ty2, fr, h1, _, _, h2, h3⟩ := hS j hSj
    rw [hj] at h1
    injection h1 with h1
    injection h1 with _ h1
    rcases hty with rfl | rfl
    · exact h2 h1.symm
    · exact h3 h1.symm
  exact ⟨j.2.1.1.kept hk (nb _ _ _ hd (.inl rfl)) (fun i hi => (hS i hi).1), (hk.block _ (blk_lt j.2.1.2.1) (nb _ _ _ j.2.1.2.1 (.inr rfl))).trans j.2.1.2.1, j.2.1.2.2.free hk (fun i hi => by obtain ⟨_, cs, ty, fr, h1, h2, h3, _⟩ := hS i hi; exact ⟨cs, ty, fr, h1, h2, h3⟩)⟩
/-- The signer itself changes. -/
theorem SP.act {w : World} {gs gt gd gr : Nat} {s id : ByteArray} {h n n2 : Nat} {v : Value} {LL : List (List ByteArray)} {l : List Int} {W W2 : World} (j : SP w gs gt gd gr s id h n v LL l W) (k : SS W2 gs gt s h n2) (hk : Kp (fun i => i = gs ∨ i = gt) W W2) : SP w gs gt gd gr s id h n2 v LL l W2 := by
  have hg1 := j.1.1
  unfold Sg at hg1
  obtain ⟨u, hg2, _⟩ := j.1.2.1
  unfold Tr at hg2
  refine ⟨k, j.rest hk (fun i hi => ?_), j.2.2⟩
  rcases hi with rfl | rfl
  · exact ⟨j.2.2.1, _, _, _, hg1, by decide, by decide, by decide, by decide⟩
  · exact ⟨j.2.2.2, _, _, _, hg2, by decide, by decide, by decide, by decide⟩
/-- Another signer over the same tree changes. -/
theorem SP.copy {w : World} {gs gt gd gr g : Nat} {s id : ByteArray} {h n n2 : Nat} {v : Value} {LL : List (List ByteArray)} {l : List Int} {W W2 : World} (j : SP w gs gt gd gr s id h n v LL l W) (k : SS W g gt s h n2) (hk : Kp (fun i => i = g) W W2) (hg : w.heap.size ≤ g) (hne : gs ≠ g) : SP w gs gt gd gr s id h n v LL l W2 := by
  have hkg := k.1
  unfold Sg at hkg
  refine ⟨j.1.other hk hne (fun i hi => ⟨_, _, _, (congrArg (fun j => W.heap[j]?) hi).trans hkg, by decide, by decide, by decide⟩), j.rest hk (fun i hi => ⟨by rw [hi]; exact hg, _, _, _, (congrArg (fun j => W.heap[j]?) hi).trans hkg, by decide, by decide, by decide, by decide⟩), j.2.2⟩
theorem SP.deck {w : World} {gs gt gd gr : Nat} {s id : ByteArray} {h n : Nat} {v : Value} {LL : List (List ByteArray)} {l : List Int} {W W2 : World} (j : SP w gs gt gd gr s id h n v LL l W) (d : Dk w W2 gd l) (hk : Kp (fun i => i = gd) W W2) : SP w gs gt gd gr s id h n v LL l W2 := by
  obtain ⟨cs, hc⟩ := j.2.1.1.blk
  have hg1 := j.1.1
  unfold Sg at hg1
  exact ⟨j.1.other hk (blk_ne hg1 hc (by decide)) (fun i hi => ⟨_, _, _, (congrArg (fun j => W.heap[j]?) hi).trans hc, by decide, by decide, by decide⟩), ⟨d, (hk.block _ (blk_lt j.2.1.2.1) (blk_ne j.2.1.2.1 hc (by decide))).trans j.2.1.2.1, j.2.1.2.2.free hk (fun i hi => ⟨_, _, _, (congrArg (fun j => W.heap[j]?) hi).trans hc, by decide, by decide⟩)⟩, j.2.2⟩
theorem SP.bel {w : World} {gs gt gd gr : Nat} {s id : ByteArray} {h n : Nat} {v : Value} {LL : List (List ByteArray)} {l : List Int} {W : World} (j : SP w gs gt gd gr s id h n v LL l W) : Below w.heap.size w W := j.2.1.1.bel
set_option maxHeartbeats 4000000 in
set_option maxRecDepth 100000 in
theorem signerPlays_walk (w : World) (k : Int) (hk0 : 0 ≤ k) (hk1 : k ≤ 255) (ht : Int) (hh0 : 0 ≤ ht) (hh1 : ht ≤ 255) (A : Option Addr) (c : Nat) (l : List Int) (hlz : l.length * 8 ≤ 140737488351232) (hlc : l.length ≤ c) (hC : Kd.C (Kd.int .i64) w A l.length l) :
    Calls Try.prog 19 #[.int .u8 k, .int .u8 ht, .slice A l.length c] w fun e w' => e = .returned (.bool true) ∧ Below w.heap.size w w' := by
  have HC := Lib.hid hC
  have HLZ := Lib.hid hlz
  have HLC := Lib.hid hlc
  clear hC hlz hlc
  obtain ⟨h, hh⟩ : ∃ h : Nat, ht % 3 = (h : Int) := ⟨(ht % 3).toNat, by omega⟩
  have h8 : h ≤ 8 := by omega
  have h2 : h ≤ 2 := by omega
  have hN4 : 2 ^ h ≤ 4 := Nat.pow_le_pow_right (by decide) h2
  have hp1 : 1 ≤ 2 ^ h := Nat.pow_pos (by decide)
  have hwk : IntKind.i64.wrap k = k := IntWalk.i64_in _ (by omega)
  have hpw : wrap64 ((2 : Int) ^ h) = ((2 ^ h : Nat) : Int) := pow_w h h8
  have hpw2 : IntKind.i64.wrap ((2 : Int) ^ h) = ((2 ^ h : Nat) : Int) := by rw [← hpw]; exact (Go.Proofs.YtilehfdplgciiaaW.PrintLast.i64_w _)
  have HSD := Lib.hid (fun W => seed_any k W)
  have HSZ := Lib.hid (seed_size k)
  have HTR := Lib.hid (fun W => rtree_any W k h h8)
  have HNEW := Lib.hid (fun W => new_any W (seed k) h (seed_size k) h8)
  have HSI := Lib.hid (fun (n : Nat) (hn : n < 2 ^ h) (m : ByteArray) (hm : m.size ≤ 1000) W gs gt (t : SS W gs gt (seed k) h n) => sgn_in W gs gt (seed k) h n m t hn hm)
  have HSO := Lib.hid (fun (m : ByteArray) W gs gt (t : SS W gs gt (seed k) h (2 ^ h)) => sgn_out W gs gt (seed k) h m t)
  have HRS := Lib.hid (fun (n : Nat) (hn : n < 2 ^ h) (m : ByteArray) (hm : m.size ≤ 1000) W v S (hv : Lv W S v (levels (seed k) h)) => rsign_in W (seed k) h n m v S hv (seed_size k) h8 hn hm)
  have HRK := Lib.hid (fun W v S (hv : Lv W S v (levels (seed k) h)) => rkey_any W (seed k) h h8 v S hv)
  have HFK := Lib.hid (fun W gs gt n (t : SS W gs gt (seed k) h n) => fork_any W gs gt (seed k) h n t)
  have hska : ∀ (n kk : Nat) (x : Int), x = (kk : Int) → n + kk ≤ 2 ^ h → ∀ (W : World) (gs gt : Nat), SS W gs gt (seed k) h n → Calls Try.prog 62 #[.pointer (some ⟨gs, 0, none⟩), .int .i64 x] W fun e w' => e = .returned (.int .i64 x) ∧ SS w' gs gt (seed k) h (n + kk) ∧ Kp (fun i => i = gs) W w' := fun n kk x hx hn W gs gt t => by
    have := skip_any W gs gt (seed k) h n kk t (by omega)
    rw [show min kk (2 ^ h - n) = kk by omega] at this
    rw [hx]
    exact this
  have hskb : ∀ (n kk : Nat) (x y : Int), x = (kk : Int) → y = ((2 ^ h : Nat) : Int) - (n : Int) → n ≤ 2 ^ h → 2 ^ h < n + kk → ∀ (W : World) (gs gt : Nat), SS W gs gt (seed k) h n → Calls Try.prog 62 #[.pointer (some ⟨gs, 0, none⟩), .int .i64 x] W fun e w' => e = .returned (.int .i64 y) ∧ SS w' gs gt (seed k) h (2 ^ h) ∧ Kp (fun i => i = gs) W w' := fun n kk x y hx hy hn hl W gs gt t => by
    have := skip_any W gs gt (seed k) h n kk t hn
    rw [show min kk (2 ^ h - n) = 2 ^ h - n by omega, show n + (2 ^ h - n) = 2 ^ h by omega] at this
    rw [hx, hy, show ((2 ^ h : Nat) : Int) - (n : Int) = ((2 ^ h - n : Nat) : Int) by omega]
    exact this
  have hskx : ∀ (n : Nat) (x : Int), 0 ≤ x → n ≤ 2 ^ h → ∀ (W : World) (gs gt : Nat), SS W gs gt (seed k) h n → Calls Try.prog 62 #[.pointer (some ⟨gs, 0, none⟩), .int .i64 x] W fun e w' => ∃ y : Int, e = .returned (.int .i64 y) ∧ Kp (fun i => i = gs) W w' := fun n x hx hn W gs gt t => by
    obtain ⟨kk, rfl⟩ := Int.eq_ofNat_of_zero_le hx
    exact (skip_any W gs gt (seed k) h n kk t hn).mono fun e w' h => ⟨_, h.1, h.2.2⟩
  have HSKA := Lib.hid hska
  have HSKB := Lib.hid hskb
  have HSKX := Lib.hid hskx
  clear hska hskb hskx
  have HSKN := Lib.hid (fun (n : Nat) (x : Int) (hx : x < 0) W gs gt (t : SS W gs gt (seed k) h n) => skip_neg W gs gt (seed k) h n x t hx)
  have HSV := Lib.hid (fun (n : Nat) (hn : n ≤ 2 ^ h) W gs gt (t : SS W gs gt (seed k) h n) => save_any W gs gt (seed k) h n t (by omega))
  have HRSV := Lib.hid (fun (n : Nat) W => rsav_any W (seed k) h n (seed_size k) (by omega))
  have HLD := Lib.hid (fun (n : Nat) (hn : n ≤ 2 ^ h) W => load_save W (seed k) h n (seed_size k) h8 hn (by omega))
  have hlf : ∀ (n : Nat), n ≤ 2 ^ h → ∀ (W : World) (gs gt : Nat), SS W gs gt (seed k) h n → Calls Try.prog 59 #[.pointer (some ⟨gs, 0, none⟩)] W fun e w' => e = .returned (.int .i64 (((2 ^ h : Nat) : Int) - (n : Int))) ∧ Below W.heap.size W w' := fun n hn W gs gt t => by
    have := left_any W gs gt (seed k) h n t hn
    rw [show ((2 ^ h - n : Nat) : Int) = ((2 ^ h : Nat) : Int) - (n : Int) by omega] at this
    exact this
  have HLF := Lib.hid hlf
  clear hlf
  generalize levels (seed k) h = LL at *
  generalize seed k = s at *
  generalize 2 ^ h = N at *
  clear hp1 h2
  go_enter Try.func19, Try.ntmps19
  go_upto_region 3 with (go_at_call 44; refine (HTR.out _).mono ?_; rintro e w2 ⟨v, rfl, hL2, hb2⟩; obtain ⟨b, cp, rfl, hcell⟩ := hL2.cell; clear hcell; have HL2 := Lib.hid hL2; have HB2 := Lib.hid hb2; clear hL2 hb2)
  generalize LL.length = ln at *
  have HT3 := Lib.hid (heap_alloc_new w2 (.cells #[.string s, .string (nameOf s), (.slice (some ⟨b, 0, none⟩) ln cp)] 63))
  have HB3 := Lib.hid (below_alloc HB2.out (.cells #[.string s, .string (nameOf s), (.slice (some ⟨b, 0, none⟩) ln cp)] 63))
  have HL3 := Lib.hid ((HL2.out.apart (S2 := fun _ => False) (fun _ _ h => h.elim)).kept (Kp.of_below _ (below_alloc (Below.refl _ _) (.cells #[.string s, .string (nameOf s), (.slice (some ⟨b, 0, none⟩) ln cp)] 63))))
  generalize w2.alloc (.cells #[.string s, .string (nameOf s), (.slice (some ⟨b, 0, none⟩) ln cp)] 63) = w3 at *
  generalize w2.heap.size = gr at *
  clear HB2 HL2 HTR
  go_upto_region 7 with (first
    | (go_at_call 28; refine (HSD.out _).mono ?_; rintro e w4 ⟨rfl, hb4⟩; have HB4 := Lib.hid hb4; clear hb4)
    | (go_at_call 56; refine (HNEW.out _).mono ?_; rintro e w5 ⟨gs, gt, rfl, hS5, hg5, ht5, hb5⟩; have HS5 := Lib.hid hS5; have HG5 := Lib.hid (And.intro (Nat.le_trans HB3.out.size (Nat.le_trans HB4.out.size hg5)) (Nat.le_trans HB3.out.size (Nat.le_trans HB4.out.size ht5))); have HB35 := Lib.hid (HB4.out.trans (hb5.mono HB4.out.size)); have HB5 := Lib.hid (HB3.out.trans (HB35.out.mono HB3.out.size)); clear hS5 hg5 ht5 hb5)
    | (go_at_call 25; refine (deck_new w _ A c l HLZ.out HLC.out HC.out HB5.out).mono ?_; rintro e w6 ⟨gd, rfl, hd6, hb6⟩; have HD6 := Lib.hid hd6; have HB36 := Lib.hid (HB35.out.trans (hb6.mono HB35.out.size)); have HS6 := Lib.hid (HS5.out.below hb6); clear hd6 hb6))
  have HJ0 := Lib.hid (show SP w gs gt gd gr s (nameOf s) h 0 (.slice (some ⟨b, 0, none⟩) ln cp) LL l w6 from ⟨HS6.out, ⟨HD6.out, (HB36.out.block _ (blk_lt HT3.out)).trans HT3.out, HL3.out.kept (Kp.of_below _ HB36.out)⟩, HG5.out.1, HG5.out.2⟩)
  clear HB4 HS5 HG5 HB35 HB5 HD6 HB36 HS6 HT3 HB3 HL3 HNEW
  go_wp2
  go_loopw [9, 12, 13, 14, 15, 16, 17, 18, 19, 20, 21, 22, 23] (fun s9 s12 s13 _ _ _ _ _ _ _ _ _ _ wr => ∃ gs gt n i : Nat, n ≤ N ∧ i ≤ 8 ∧ s9 = .pointer (some ⟨gs, 0, none⟩) ∧ s12 = .int .i64 n ∧ s13 = .int .i64 i ∧ SP w gs gt gd gr s (nameOf s) h n (.slice (some ⟨b, 0, none⟩) ln cp) LL l wr) (fun _ _ s13 _ _ _ _ _ _ _ _ _ _ _ => (8 - intOf s13).toNat)
  case atStart => exact ⟨gs, gt, 0, 0, Nat.zero_le _, Nat.zero_le _, rfl, rfl, rfl, HJ0.out⟩
  case round =>
    clear HJ0
    obtain ⟨gs1, gt1, n1, i, hn1, hi8, rfl, rfl, rfl, hJ⟩ := hrel
    have HJ := Lib.hid hJ
    have HN1 := Lib.hid hn1
    clear hJ
    by_cases hi : i < 8
    · have qi : (i : Int) < 8 := by omega
      go_upto_if 52 with (go_at_call 64; refine (deck_left HJ.out.2.1.1).mono ?_; rintro e w7 ⟨bb, rfl, hd7, hk7⟩; have HJ7 := Lib.hid (HJ.out.deck hd7 hk7); clear hd7 hk7)
      cases bb
      · go_wp2_with (go_at_call 35; refine (awake13 _).mono ?_; rintro e w8 ⟨rfl, hb8⟩; have HJ8 := Lib.hid (HJ7.out.below hb8); clear hb8)
        go_ret
        exact ⟨rfl, HJ8.out.bel⟩
      go_upto_block 2 with (go_at_call 37; refine (deck_next 5 HJ7.out.2.1.1 (by decide) (by decide)).mono ?_; rintro e w8 ⟨q, rfl, q0, q1, hd8, hk8⟩; have HJ8 := Lib.hid (HJ7.out.deck hd8 hk8); clear hd8 hk8)
      by_cases hc : (q = 0 ∨ q = 1) ∧ n1 = N
      · obtain ⟨hq, rfl⟩ := hc
        clear q0 q1
        rcases hq with rfl | rfl
        all_goals
          go_upto_region 20 with (go_at_call 37; refine (deck_next 256 HJ8.out.2.1.1 (by decide) (by decide)).mono ?_; rintro e w9 ⟨r, rfl, r0, r1, hd9, hk9⟩; have HJ9 := Lib.hid (HJ8.out.deck hd9 hk9); have hwr := u8_small r r0 (by omega); obtain ⟨mm, hmm⟩ : ∃ y, y = strOfNums [r] := ⟨_, rfl⟩; have hmz : mm.size = 1 := by { rw [hmm]; rfl }; have hcv := conv_one (w9.alloc (.cells #[.int .u8 r] 5)) w9.heap.size r (heap_alloc_new _ _); rw [← hmm] at hcv; have hz7 : 7 + mm.size ≤ 9223372036854775807 := by { rw [hmz]; decide }; have HMZ := Lib.hid hmz; have HJ10 := Lib.hid (HJ9.out.below (below_alloc (Below.refl _ _) (.cells #[.int .u8 r] 5))); clear hd9 hk9 hmm hmz)
          clear hwr hcv hz7 r0 r1 HJ9
          generalize w9.alloc (.cells #[.int .u8 r] 5) = w10 at *
          have hm8 : (⟨#[109, 101, 115, 115, 97, 103, 101]⟩ ++ mm).size ≤ 1000 := by rw [ByteArray.size_append, HMZ.out]; decide
          have HM8 := Lib.hid hm8
          clear hm8
          go_wp2_with (go_at_call 60; refine (HSO.out _ _ gs1 gt1 HJ10.out.1).mono ?_; rintro e w11 ⟨rfl, hb11⟩; have HJ11 := Lib.hid (HJ10.out.below hb11); clear hb11)
          go_roundw
          case rel => exact ⟨gs1, gt1, n1, i + 1, HN1.out, by omega, rfl, rfl, by go_num, HJ11.out⟩
          case measure => simp [intOf]; omega
      go_cut [9, 12] (fun s9 s12 W' => ∃ gs gt n : Nat, n ≤ N ∧ s9 = .pointer (some ⟨gs, 0, none⟩) ∧ s12 = .int .i64 n ∧ SP w gs gt gd gr s (nameOf s) h n (.slice (some ⟨b, 0, none⟩) ln cp) LL l W')
      case first =>
        have hq : (q = 0 ∧ n1 < N) ∨ (q = 1 ∧ n1 < N) ∨ q = 2 ∨ q = 3 ∨ q = 4 := by have := HN1.out; omega
        clear hc q0 q1
        rcases hq with ⟨rfl, hlt⟩ | ⟨rfl, hlt⟩ | rfl | rfl | rfl
        · have HLT := Lib.hid hlt
          have qlt : (n1 : Int) < (N : Int) := by omega
          have qne : ((n1 : Int) == (N : Int)) = false := by simp; omega
          clear hlt
          go_upto_region 20 with (go_at_call 37; refine (deck_next 256 HJ8.out.2.1.1 (by decide) (by decide)).mono ?_; rintro e w9 ⟨r, rfl, r0, r1, hd9, hk9⟩; have HJ9 := Lib.hid (HJ8.out.deck hd9 hk9); have hwr := u8_small r r0 (by omega); obtain ⟨mm, hmm⟩ : ∃ y, y = strOfNums [r] := ⟨_, rfl⟩; have hmz : mm.size = 1 := by { rw [hmm]; rfl }; have hcv := conv_one (w9.alloc (.cells #[.int .u8 r] 5)) w9.heap.size r (heap_alloc_new _ _); rw [← hmm] at hcv; have hz7 : 7 + mm.size ≤ 9223372036854775807 := by { rw [hmz]; decide }; have HMZ := Lib.hid hmz; have HJ10 := Lib.hid (HJ9.out.below (below_alloc (Below.refl _ _) (.cells #[.int .u8 r] 5))); clear hd9 hk9 hmm hmz)
          clear hwr hcv hz7 r0 r1 HJ9
          generalize w9.alloc (.cells #[.int .u8 r] 5) = w10 at *
          have hm8 : (⟨#[109, 101, 115, 115, 97, 103, 101]⟩ ++ mm).size ≤ 1000 := by rw [ByteArray.size_append, HMZ.out]; decide
          have HM8 := Lib.hid hm8
          clear hm8
          obtain ⟨sg, hsg⟩ : ∃ y, y = sigR s h n1 (⟨#[109, 101, 115, 115, 97, 103, 101]⟩ ++ mm) := ⟨_, rfl⟩
          have hsi := HSI.out n1 HLT.out (⟨#[109, 101, 115, 115, 97, 103, 101]⟩ ++ mm) HM8.out
          have hrs := HRS.out n1 HLT.out (⟨#[109, 101, 115, 115, 97, 103, 101]⟩ ++ mm) HM8.out
          rw [← hsg] at hsi hrs
          have SI := Lib.hid hsi
          have RS := Lib.hid hrs
          clear hsg hsi hrs
          go_upto_region 24 with (go_at_call 60; refine (SI.out _ gs1 gt1 HJ10.out.1).mono ?_; rintro e w11 ⟨rfl, hs11, hk11⟩; have HJ11 := Lib.hid (HJ10.out.act hs11 hk11); clear hs11 hk11)
          have jt := HJ11.out.2.1.2.1
          have c0 := (blk_cell jt 0).trans rfl
          have c1 := (blk_cell jt 1).trans rfl
          have c2 := (blk_cell jt 2).trans rfl
          clear jt
          go_wp2_with (go_at_call 50; refine (RS.out _ _ _ HJ11.out.2.1.2.2).mono ?_; rintro e w12 ⟨rfl, hb12⟩; have HJ12 := Lib.hid (HJ11.out.below hb12); clear hb12)
          go_meet
          case rel => exact ⟨gs1, gt1, n1 + 1, HLT.out, rfl, by go_num, HJ12.out⟩
        · have HLT := Lib.hid hlt
          have qlt : (n1 : Int) < (N : Int) := by omega
          have qne : ((n1 : Int) == (N : Int)) = false := by simp; omega
          clear hlt
          go_upto_region 20 with (go_at_call 37; refine (deck_next 256 HJ8.out.2.1.1 (by decide) (by decide)).mono ?_; rintro e w9 ⟨r, rfl, r0, r1, hd9, hk9⟩; have HJ9 := Lib.hid (HJ8.out.deck hd9 hk9); have hwr := u8_small r r0 (by omega); obtain ⟨mm, hmm⟩ : ∃ y, y = strOfNums [r] := ⟨_, rfl⟩; have hmz : mm.size = 1 := by { rw [hmm]; rfl }; have hcv := conv_one (w9.alloc (.cells #[.int .u8 r] 5)) w9.heap.size r (heap_alloc_new _ _); rw [← hmm] at hcv; have hz7 : 7 + mm.size ≤ 9223372036854775807 := by { rw [hmz]; decide }; have HMZ := Lib.hid hmz; have HJ10 := Lib.hid (HJ9.out.below (below_alloc (Below.refl _ _) (.cells #[.int .u8 r] 5))); clear hd9 hk9 hmm hmz)
          clear hwr hcv hz7 r0 r1 HJ9
          generalize w9.alloc (.cells #[.int .u8 r] 5) = w10 at *
          have hm8 : (⟨#[109, 101, 115, 115, 97, 103, 101]⟩ ++ mm).size ≤ 1000 := by rw [ByteArray.size_append, HMZ.out]; decide
          have HM8 := Lib.hid hm8
          clear hm8
          obtain ⟨sg, hsg⟩ : ∃ y, y = sigR s h n1 (⟨#[109, 101, 115, 115, 97, 103, 101]⟩ ++ mm) := ⟨_, rfl⟩
          have hsi := HSI.out n1 HLT.out (⟨#[109, 101, 115, 115, 97, 103, 101]⟩ ++ mm) HM8.out
          have hrs := HRS.out n1 HLT.out (⟨#[109, 101, 115, 115, 97, 103, 101]⟩ ++ mm) HM8.out
          rw [← hsg] at hsi hrs
          have SI := Lib.hid hsi
          have RS := Lib.hid hrs
          clear hsg hsi hrs
          go_upto_region 24 with (go_at_call 60; refine (SI.out _ gs1 gt1 HJ10.out.1).mono ?_; rintro e w11 ⟨rfl, hs11, hk11⟩; have HJ11 := Lib.hid (HJ10.out.act hs11 hk11); clear hs11 hk11)
          have jt := HJ11.out.2.1.2.1
          have c0 := (blk_cell jt 0).trans rfl
          have c1 := (blk_cell jt 1).trans rfl
          have c2 := (blk_cell jt 2).trans rfl
          clear jt
          go_wp2_with (go_at_call 50; refine (RS.out _ _ _ HJ11.out.2.1.2.2).mono ?_; rintro e w12 ⟨rfl, hb12⟩; have HJ12 := Lib.hid (HJ11.out.below hb12); clear hb12)
          go_meet
          case rel => exact ⟨gs1, gt1, n1 + 1, HLT.out, rfl, by go_num, HJ12.out⟩
        · go_upto_region 30 with (go_at_call 37; refine (deck_next 5 HJ8.out.2.1.1 (by decide) (by decide)).mono ?_; rintro e w9 ⟨r, rfl, r0, r1, hd9, hk9⟩; have HJ9 := Lib.hid (HJ8.out.deck hd9 hk9); clear hd9 hk9)
          obtain ⟨x, hx⟩ : ∃ x, r - 1 = x := ⟨_, rfl⟩
          have qn : (n1 : Int) ≤ (N : Int) := by have := HN1.out; omega
          rw [hx]
          have x0 : -1 ≤ x := by omega
          clear hx r0 r1
          have hcase : x < 0 ∨ x = 0 ∨ 0 < x ∧ x ≤ (N : Int) - n1 ∨ 0 < x ∧ n1 = N ∨ 0 < x ∧ n1 < N ∧ (N : Int) - n1 < x := by omega
          rcases hcase with hx | rfl | ⟨p0, p1⟩ | ⟨p0, rfl⟩ | ⟨p0, p1, p2⟩
          · have hx1 : x = -1 := by omega
            subst hx1
            clear hx
            go_wp2_with (go_at_call 62; refine (HSKN.out n1 _ (by decide) _ gs1 gt1 HJ9.out.1).mono ?_; rintro e w' ⟨rfl, rfl⟩)
            go_meet
            case rel => exact ⟨gs1, gt1, n1, HN1.out, rfl, by first | rfl | go_num | (congr 1; omega), HJ9.out⟩
          · have HK := Lib.hid (HSKA.out n1 0 0 rfl HN1.out)
            go_wp2_with (go_at_call 62; refine (HK.out _ gs1 gt1 HJ9.out.1).mono ?_; rintro e w10 ⟨rfl, hs10, hk10⟩; have HJ10 := Lib.hid (HJ9.out.act hs10 (hk10.mono fun i hi => .inl hi)); clear hs10 hk10)
            go_meet
            case rel => exact ⟨gs1, gt1, n1, HN1.out, rfl, by first | rfl | go_num | (congr 1; omega), HJ10.out⟩
          · obtain ⟨kk, rfl⟩ := Int.eq_ofNat_of_zero_le (show 0 ≤ x by omega)
            have hle : n1 + kk ≤ N := by omega
            have HK := Lib.hid (HSKA.out n1 kk (kk : Int) rfl hle)
            have HLE := Lib.hid hle
            clear hle
            go_wp2_with (go_at_call 62; refine (HK.out _ gs1 gt1 HJ9.out.1).mono ?_; rintro e w10 ⟨rfl, hs10, hk10⟩; have HJ10 := Lib.hid (HJ9.out.act hs10 (hk10.mono fun i hi => .inl hi)); clear hs10 hk10)
            go_meet
            case rel => exact ⟨gs1, gt1, n1 + kk, HLE.out, rfl, by first | rfl | go_num | (congr 1; omega), HJ10.out⟩
          · have HK := Lib.hid (HSKB.out n1 x.toNat x 0 (by omega) (by omega) (Nat.le_refl _) (by omega))
            go_wp2_with (go_at_call 62; refine (HK.out _ gs1 gt1 HJ9.out.1).mono ?_; rintro e w10 ⟨rfl, hs10, hk10⟩; have HJ10 := Lib.hid (HJ9.out.act hs10 (hk10.mono fun i hi => .inl hi)); clear hs10 hk10)
            go_meet
            case rel => exact ⟨gs1, gt1, n1, HN1.out, rfl, by first | rfl | go_num | (congr 1; omega), HJ10.out⟩
          · have p3 : 0 < (N : Int) - n1 := by omega
            have HK := Lib.hid (HSKB.out n1 x.toNat x ((N : Int) - n1) (by omega) rfl (by omega) (by omega))
            go_wp2_with (go_at_call 62; refine (HK.out _ gs1 gt1 HJ9.out.1).mono ?_; rintro e w10 ⟨rfl, hs10, hk10⟩; have HJ10 := Lib.hid (HJ9.out.act hs10 (hk10.mono fun i hi => .inl hi)); clear hs10 hk10)
            go_meet
            case rel => exact ⟨gs1, gt1, N, Nat.le_refl _, rfl, by first | rfl | go_num | (congr 1; omega), HJ10.out⟩
        · go_wp2_with (first
            | (go_at_call 63; refine (HFK.out _ gs1 gt1 n1 HJ8.out.1).mono ?_; rintro e w9 ⟨g2, rfl, hs9, hg9, hb9⟩; have HJ9 := Lib.hid (HJ8.out.below hb9); have HK9 := Lib.hid (show SP w g2 gt1 gd gr s (nameOf s) h n1 (.slice (some ⟨b, 0, none⟩) ln cp) LL l w9 from ⟨hs9, HJ9.out.2.1, Nat.le_trans HJ8.out.bel.size hg9, HJ9.out.2.2.2⟩); have HNE := Lib.hid (show g2 ≠ gs1 from fun e => by have := HJ8.out.1.lt; omega); clear hs9 hg9 hb9)
            | (go_at_call 37; refine (deck_next 3 HJ9.out.2.1.1 (by decide) (by decide)).mono ?_; rintro e w10 ⟨r, rfl, r0, r1, hd10, hk10⟩; have HJ10 := Lib.hid (HJ9.out.deck hd10 hk10); have HK10 := Lib.hid (HK9.out.deck hd10 hk10); have HR0 := Lib.hid r0; clear hd10 hk10 r0 r1)
            | (go_at_call 62; refine (HSKX.out n1 r HR0.out HN1.out _ gs1 gt1 HJ10.out.1).mono ?_; rintro e w11 ⟨y, rfl, hk11⟩; have HK11 := Lib.hid (HK10.out.copy HJ10.out.1 hk11 HJ10.out.2.2.1 HNE.out); clear hk11))
          go_meet
          case rel => exact ⟨g2, gt1, n1, HN1.out, rfl, rfl, HK11.out⟩
        · have hsv := HSV.out n1 HN1.out
          have hrsv := HRSV.out n1
          have hld := HLD.out n1 HN1.out
          generalize saveS s h n1 = sv at *
          have SV := Lib.hid hsv
          have RSV := Lib.hid hrsv
          have LD := Lib.hid hld
          clear hsv hrsv hld
          go_wp2_with (first
            | (go_at_call 39; refine (SV.out _ gs1 gt1 HJ11.out.1).mono ?_; rintro e w12 ⟨rfl, hb12⟩; have HJ12 := Lib.hid (HJ11.out.below hb12); clear hb12)
            | (go_at_call 39; refine (SV.out _ gs1 gt1 HJ8.out.1).mono ?_; rintro e w9 ⟨rfl, hb9⟩; have HJ9 := Lib.hid (HJ8.out.below hb9); clear hb9)
            | (go_at_call 28; refine (HSD.out _).mono ?_; rintro e w10 ⟨rfl, hb10⟩; have HJ10 := Lib.hid (HJ9.out.below hb10); clear hb10)
            | (go_at_call 36; refine (RSV.out _).mono ?_; rintro e w11 ⟨rfl, hb11⟩; have HJ11 := Lib.hid (HJ10.out.below hb11); clear hb11)
            | (go_at_call 38; refine (LD.out _).mono ?_; rintro e w13 ⟨gs2, gt2, rfl, hs13, hg13, ht13, hb13⟩; have HJ13 := Lib.hid (HJ12.out.below hb13); have HS13 := Lib.hid hs13; have HG13 := Lib.hid (And.intro (Nat.le_trans HJ12.out.bel.size hg13) (Nat.le_trans HJ12.out.bel.size ht13)); clear hs13 hg13 ht13 hb13))
          go_meet
          case rel => exact ⟨gs2, gt2, n1, HN1.out, rfl, rfl, HS13.out, HJ13.out.2.1, HG13.out.1, HG13.out.2⟩
      case rest =>
      obtain ⟨gs, gt, n, hn, rfl, rfl, hJ⟩ := hcut
      have HJ10 := Lib.hid hJ
      have HN := Lib.hid hn
      have hsub : IntKind.i64.wrap ((N : Int) - (n : Int)) = (N : Int) - (n : Int) := IntWalk.i64_in _ (by omega)
      have hkeq := fun W => key_same (h : Int) (nameOf s) (root s h) W
      have hkg := guard_key
      have hpw3 := hpw2
      clear hJ hn HJ8 HJ7 HJ q0 q1 hc
      go_upto_region 40 with fail
      refine PrintLast.start_ (n := 20) (S := fun w' => SP w gs gt gd gr s (nameOf s) h n (.slice (some ⟨b, 0, none⟩) ln cp) LL l w') (ds := []) #[false, false, false, false, false, false, false, false, false, false, false, false, false, false, false, false, false, false, false, false] (by kernel_rfl) rfl rfl (HJ10.out.below (below_drew (Below.refl _ _))) (fun hHeld => ?_)
      clear hHeld
      have HJA := Lib.hid (HJ10.out.below (below_drew (Below.refl _ _)))
      refine PrintLast.pure_ (i := 0) (N := some 151) (v := ?_) (a' := ?_) #[true, false, false, false, false, false, false, false, false, false, false, false, false, false, false, false, false, false, false, false] rfl rfl (by kernel_rfl) (fun _ _ _ h => h) (Or.inl ⟨by rfl, ?_⟩) ?_ ?_
      rotate_left
      · intro w'
        go_simp
        with_reducible rfl
      rotate_left
      · simp only [Act.put, List.setIfInBounds_toArray, List.set_cons_zero, List.set_cons_succ, PrintLast.i64_w, PrintLast.i32_w]
        rfl
      refine PrintLast.pure_ (i := 2) (N := some 153) (v := ?_) (a' := ?_) #[true, false, true, false, false, false, false, false, false, false, false, false, false, false, false, false, false, false, false, false] rfl rfl (by kernel_rfl) (fun _ _ _ h => h) (Or.inl ⟨by rfl, ?_⟩) ?_ ?_
      rotate_left
      · intro w'
        go_simp
        with_reducible rfl
      rotate_left
      · simp only [Act.put, List.setIfInBounds_toArray, List.set_cons_zero, List.set_cons_succ, PrintLast.i64_w, PrintLast.i32_w]
        rfl
      refine PrintLast.one_ (i := 1) (N := some 152) #[true, true, true, false, false, false, false, false, false, false, false, false, false, false, false, false, false, false, false, false] rfl rfl (by kernel_rfl) (by decide) (fun K hK => ?_)
      refine PrintLast.goes_ Try.func58 (by kernel_rfl) rfl #[.pointer (some ⟨gs, 0, none⟩)] (by rfl) rfl rfl (by (try simp only [List.map_toArray, List.map_cons, List.map_nil]); first | done | rfl) ?_
      refine (next_any _ gs gt s h n HJA.out.1).mono ?_
      rintro e w' ⟨rfl, rfl⟩
      refine ⟨_, rfl, ?_⟩
      refine hK.out _ _ (HJA.out) (fun hHeld => ?_)
      clear hHeld hK K
      refine PrintLast.norm_ (a' := ?_) ?_ ?_
      rotate_left
      · show Act.put _ (some 152) _ = _
        simp only [Act.put, List.setIfInBounds_toArray, List.set_cons_zero, List.set_cons_succ, PrintLast.i64_w, PrintLast.i32_w]
        rfl
      refine PrintLast.pure_ (i := 3) (N := some 154) (v := ?_) (a' := ?_) #[true, true, true, true, false, false, false, false, false, false, false, false, false, false, false, false, false, false, false, false] rfl rfl (by kernel_rfl) (fun _ _ _ h => h) (Or.inl ⟨by rfl, ?_⟩) ?_ ?_
      rotate_left
      · intro w'
        go_simp
        with_reducible rfl
      rotate_left
      · simp only [Act.put, List.setIfInBounds_toArray, List.set_cons_zero, List.set_cons_succ, PrintLast.i64_w, PrintLast.i32_w]
        rfl
      refine PrintLast.pure_ (i := 4) (N := some 155) (v := ?_) (a' := ?_) #[true, true, true, true, true, false, false, false, false, false, false, false, false, false, false, false, false, false, false, false] rfl rfl (by kernel_rfl) (fun _ _ _ h => h) (Or.inl ⟨by rfl, ?_⟩) ?_ ?_
      rotate_left
      · intro w'
        go_simp
        with_reducible rfl
      rotate_left
      · simp only [Act.put, List.setIfInBounds_toArray, List.set_cons_zero, List.set_cons_succ, PrintLast.i64_w, PrintLast.i32_w]
        rfl
      refine PrintLast.pure_ (i := 5) (N := some 156) (v := ?_) (a' := ?_) #[true, true, true, true, true, true, false, false, false, false, false, false, false, false, false, false, false, false, false, false] rfl rfl (by kernel_rfl) (fun _ _ _ h => h) (Or.inl ⟨by rfl, ?_⟩) ?_ ?_
      rotate_left
      · intro w'
        go_simp
        with_reducible rfl
      rotate_left
      · simp only [Act.put, List.setIfInBounds_toArray, List.set_cons_zero, List.set_cons_succ, PrintLast.i64_w, PrintLast.i32_w]
        rfl
      refine PrintLast.pure_ (i := 7) (N := some 158) (v := ?_) (a' := ?_) #[true, true, true, true, true, true, false, true, false, false, false, false, false, false, false, false, false, false, false, false] rfl rfl (by kernel_rfl) (fun _ _ _ h => h) (Or.inl ⟨by rfl, ?_⟩) ?_ ?_
      rotate_left
      · intro w'
        go_simp
        with_reducible rfl
      rotate_left
      · simp only [Act.put, List.setIfInBounds_toArray, List.set_cons_zero, List.set_cons_succ, PrintLast.i64_w, PrintLast.i32_w]
        rfl
      refine PrintLast.pure_ (i := 8) (N := some 159) (v := ?_) (a' := ?_) #[true, true, true, true, true, true, false, true, true, false, false, false, false, false, false, false, false, false, false, false] rfl rfl (by kernel_rfl) (fun _ _ _ h => h) (Or.inl ⟨by rfl, ?_⟩) ?_ ?_
      rotate_left
      · intro w'
        go_simp
        with_reducible rfl
      rotate_left
      · simp only [Act.put, List.setIfInBounds_toArray, List.set_cons_zero, List.set_cons_succ, PrintLast.i64_w, PrintLast.i32_w]
        rfl
      refine PrintLast.pure_ (i := 9) (N := some 160) (v := ?_) (a' := ?_) #[true, true, true, true, true, true, false, true, true, true, false, false, false, false, false, false, false, false, false, false] rfl rfl (by kernel_rfl) (fun _ _ _ h => h) (Or.inl ⟨by rfl, ?_⟩) ?_ ?_
      rotate_left
      · intro w'
        go_simp
        with_reducible rfl
      rotate_left
      · simp only [Act.put, List.setIfInBounds_toArray, List.set_cons_zero, List.set_cons_succ, PrintLast.i64_w, PrintLast.i32_w]
        rfl
      refine PrintLast.pure_ (i := 10) (N := some 161) (v := ?_) (a' := ?_) #[true, true, true, true, true, true, false, true, true, true, true, false, false, false, false, false, false, false, false, false] rfl rfl (by kernel_rfl) (fun _ _ _ h => h) (Or.inl ⟨by rfl, ?_⟩) ?_ ?_
      rotate_left
      · intro w'
        go_simp
        with_reducible rfl
      rotate_left
      · simp only [Act.put, List.setIfInBounds_toArray, List.set_cons_zero, List.set_cons_succ, PrintLast.i64_w, PrintLast.i32_w]
        rfl
      refine PrintLast.one_ (i := 6) (N := some 157) #[true, true, true, true, true, true, true, true, true, true, true, false, false, false, false, false, false, false, false, false] rfl rfl (by kernel_rfl) (by decide) (fun K hK => ?_)
      refine PrintLast.goes_ Try.func59 (by kernel_rfl) rfl #[.pointer (some ⟨gs, 0, none⟩)] (by rfl) rfl rfl (by (try simp only [List.map_toArray, List.map_cons, List.map_nil]); first | done | rfl) ?_
      refine (HLF.out n HN.out _ gs gt HJA.out.1).mono ?_
      rintro e w21 ⟨rfl, hb⟩
      refine ⟨_, rfl, ?_⟩
      have HJB := Lib.hid (HJA.out.below hb)
      clear hb
      refine hK.out _ _ (HJB.out) (fun hHeld => ?_)
      clear hHeld hK K
      refine PrintLast.norm_ (a' := ?_) ?_ ?_
      rotate_left
      · show Act.put _ (some 157) _ = _
        simp only [Act.put, List.setIfInBounds_toArray, List.set_cons_zero, List.set_cons_succ, PrintLast.i64_w, PrintLast.i32_w]
        rfl
      refine PrintLast.pure_ (i := 11) (N := some 162) (v := ?_) (a' := ?_) #[true, true, true, true, true, true, true, true, true, true, true, true, false, false, false, false, false, false, false, false] rfl rfl (by kernel_rfl) (fun _ _ _ h => h) (Or.inl ⟨by rfl, ?_⟩) ?_ ?_
      rotate_left
      · intro w'
        go_simp
        with_reducible rfl
      rotate_left
      · simp only [Act.put, List.setIfInBounds_toArray, List.set_cons_zero, List.set_cons_succ, PrintLast.i64_w, PrintLast.i32_w]
        rfl
      refine PrintLast.pure_ (i := 12) (N := some 163) (v := ?_) (a' := ?_) #[true, true, true, true, true, true, true, true, true, true, true, true, true, false, false, false, false, false, false, false] rfl rfl (by kernel_rfl) (fun _ _ _ h => h) (Or.inl ⟨by rfl, ?_⟩) ?_ ?_
      rotate_left
      · intro w'
        go_simp
        with_reducible rfl
      rotate_left
      · simp only [Act.put, List.setIfInBounds_toArray, List.set_cons_zero, List.set_cons_succ, PrintLast.i64_w, PrintLast.i32_w]
        rfl
      refine PrintLast.pure_ (i := 13) (N := some 164) (v := ?_) (a' := ?_) #[true, true, true, true, true, true, true, true, true, true, true, true, true, true, false, false, false, false, false, false] rfl rfl (by kernel_rfl) (fun _ _ _ h => h) (Or.inl ⟨by rfl, ?_⟩) ?_ ?_
      rotate_left
      · intro w'
        go_simp
        with_reducible rfl
      rotate_left
      · simp only [Act.put, List.setIfInBounds_toArray, List.set_cons_zero, List.set_cons_succ, PrintLast.i64_w, PrintLast.i32_w]
        rfl
      refine PrintLast.pure_ (i := 14) (N := some 165) (v := ?_) (a' := ?_) #[true, true, true, true, true, true, true, true, true, true, true, true, true, true, true, false, false, false, false, false] rfl rfl (by kernel_rfl) (fun _ _ _ h => h) (Or.inl ⟨by rfl, ?_⟩) ?_ ?_
      rotate_left
      · intro w'
        go_simp
        with_reducible rfl
      rotate_left
      · simp only [Act.put, List.setIfInBounds_toArray, List.set_cons_zero, List.set_cons_succ, PrintLast.i64_w, PrintLast.i32_w]
        rfl
      refine PrintLast.take_ (i := 16) (N := some 167) (v := ?_) (a' := ?_) #[true, true, true, true, true, true, true, true, true, true, true, true, true, true, true, false, true, false, false, false] rfl rfl (by kernel_rfl) (fun _ _ _ h => h) (Or.inl ⟨by rfl, ?_⟩) HJB.out ?_ ?_
      rotate_left
      · intro w' hS
        have c0 := (blk_cell hS.2.1.2.1 0).trans rfl
        have c1 := (blk_cell hS.2.1.2.1 1).trans rfl
        have c2 := (blk_cell hS.2.1.2.1 2).trans rfl
        go_simp
        with_reducible rfl
      rotate_left
      · simp only [Act.put, List.setIfInBounds_toArray, List.set_cons_zero, List.set_cons_succ, PrintLast.i64_w, PrintLast.i32_w]
        rfl
      refine PrintLast.one_ (i := 15) (N := some 166) #[true, true, true, true, true, true, true, true, true, true, true, true, true, true, true, true, true, false, false, false] rfl rfl (by kernel_rfl) (by decide) (fun K hK => ?_)
      refine PrintLast.goes_ Try.func61 (by kernel_rfl) rfl #[.pointer (some ⟨gs, 0, none⟩)] (by rfl) rfl rfl (by (try simp only [List.map_toArray, List.map_cons, List.map_nil]); first | done | rfl) ?_
      refine (skey_any _ gs gt s h n HJB.out.1).mono ?_
      rintro e w22 ⟨rfl, hk, hkp⟩
      refine ⟨_, rfl, ?_⟩
      have HJC := Lib.hid (HJB.out.act hk (hkp.mono fun i hi => .inr hi))
      clear hk hkp
      refine hK.out _ _ (HJC.out) (fun hHeld => ?_)
      clear hHeld hK K
      refine PrintLast.norm_ (a' := ?_) ?_ ?_
      rotate_left
      · show Act.put _ (some 166) _ = _
        simp only [Act.put, List.setIfInBounds_toArray, List.set_cons_zero, List.set_cons_succ, PrintLast.i64_w, PrintLast.i32_w]
        rfl
      refine PrintLast.one_ (i := 17) (N := some 168) #[true, true, true, true, true, true, true, true, true, true, true, true, true, true, true, true, true, true, false, false] rfl rfl (by kernel_rfl) (by decide) (fun K hK => ?_)
      refine PrintLast.goes_ Try.func43 (by kernel_rfl) rfl #[.agg #[.string s, .string (nameOf s), (.slice (some ⟨b, 0, none⟩) ln cp)]] (by rfl) rfl rfl (by (try simp only [List.map_toArray, List.map_cons, List.map_nil]); first | done | rfl) ?_
      refine (HRK.out _ _ _ HJC.out.2.1.2.2).mono ?_
      rintro e w23 ⟨rfl, hb⟩
      refine ⟨_, rfl, ?_⟩
      have HJD := Lib.hid (HJC.out.below hb)
      clear hb
      refine hK.out _ _ (HJD.out) (fun hHeld => ?_)
      clear hHeld hK K
      refine PrintLast.norm_ (a' := ?_) ?_ ?_
      rotate_left
      · show Act.put _ (some 168) _ = _
        simp only [Act.put, List.setIfInBounds_toArray, List.set_cons_zero, List.set_cons_succ, PrintLast.i64_w, PrintLast.i32_w]
        rfl
      refine PrintLast.pure_ (i := 18) (N := some 169) (v := ?_) (a' := ?_) #[true, true, true, true, true, true, true, true, true, true, true, true, true, true, true, true, true, true, true, false] rfl rfl (by kernel_rfl) (fun _ _ _ h => h) (Or.inl ⟨by rfl, ?_⟩) ?_ ?_
      rotate_left
      · intro w'
        go_simp
        with_reducible rfl
      rotate_left
      · simp only [Act.put, List.setIfInBounds_toArray, List.set_cons_zero, List.set_cons_succ, PrintLast.i64_w, PrintLast.i32_w]
        rfl
      refine PrintLast.pure_ (i := 19) (N := some 170) (v := ?_) (a' := ?_) #[true, true, true, true, true, true, true, true, true, true, true, true, true, true, true, true, true, true, true, true] rfl rfl (by kernel_rfl) (fun _ _ _ h => h) (Or.inl ⟨by rfl, ?_⟩) ?_ ?_
      rotate_left
      · intro w'
        go_simp
        with_reducible rfl
      rotate_left
      · simp only [Act.put, List.setIfInBounds_toArray, List.set_cons_zero, List.set_cons_succ, PrintLast.i64_w, PrintLast.i32_w]
        rfl
      refine PrintLast.done_ (by kernel_rfl) ?_
      clear hkeq hkg hpw3 hsub
      go_wp2
      go_roundw
      case rel => exact ⟨gs, gt, n, i + 1, HN.out, by omega, rfl, by go_num, by go_num, HJD.out⟩
      case measure => simp [intOf]; omega
    · have qi : (8 : Int) ≤ (i : Int) := by omega
      go_wp2_with (go_at_call 35; refine (awake13 _).mono ?_; rintro e w10 ⟨rfl, hb10⟩; have HJ10 := Lib.hid (HJ.out.below hb10); clear hb10)
      go_ret
      exact ⟨rfl, HJ10.out.bel⟩
end Go.Proofs.Ytilehfdplgciiaa.Hand
