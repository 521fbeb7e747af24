import Derived.Test.YtilehfdplgciiaaSgA
/-! certpathlaw13's awake, walked. -/
namespace Go.Proofs.Ytilehfdplgciiaa.Hand
open Go.RowKit Go.Proofs.YtilehfdplgciiaaW.PrintWords Go.Proofs.Ytilehfdplgciiaa.PLM Go.Proofs.Ytilehfdplgciiaa.Plain
set_option linter.unusedVariables false
attribute [local go_sem ↓] Go.wp_at_zero Go.wp_at_succ

theorem Kp.below_two {w0 w1 w2 : World} {gs gt : Nat} (k : Kp (fun i => i = gs ∨ i = gt) w1 w2) (h : Below w0.heap.size w0 w1) (h1 : w0.heap.size ≤ gs) (h2 : w0.heap.size ≤ gt) : Below w0.heap.size w0 w2 := k.below h h.size (fun i hi => by rcases hi with rfl | rfl <;> assumption)
set_option maxHeartbeats 1000000 in
theorem awake13 (w : World) : Calls Try.prog 35 #[] w fun e w' => e = .returned (.bool true) ∧ Below w.heap.size w w' := by
  have hs := seed_size 1
  have hnew : ∀ W : World, Calls Try.prog 56 #[.string (seed 1), .int .i64 0] W fun e w' => ∃ gs gt : Nat, e = .returned (.tuple #[.pointer (some ⟨gs, 0, none⟩), .int .i64 0]) ∧ SS w' gs gt (seed 1) 0 0 ∧ W.heap.size ≤ gs ∧ W.heap.size ≤ gt ∧ Below W.heap.size W w' := fun W => new_any W (seed 1) 0 hs (by decide)
  have h1 : ∀ (W : World) (gs gt : Nat), SS W gs gt (seed 1) 0 0 → Calls Try.prog 60 #[.pointer (some ⟨gs, 0, none⟩), .string ⟨#[97]⟩] W fun e w' => e = .returned (.tuple #[.string (sigR (seed 1) 0 0 ⟨#[97]⟩), .int .i64 0]) ∧ SS w' gs gt (seed 1) 0 1 ∧ Kp (fun i => i = gs ∨ i = gt) W w' := fun W gs gt k => sgn_in W gs gt (seed 1) 0 0 ⟨#[97]⟩ k (by decide) (by decide)
  have h2 : ∀ (W : World) (gs gt : Nat), SS W gs gt (seed 1) 0 1 → Calls Try.prog 60 #[.pointer (some ⟨gs, 0, none⟩), .string ⟨#[98]⟩] W fun e w' => e = .returned (.tuple #[.string ⟨#[]⟩, .int .i64 19]) ∧ Below W.heap.size W w' := fun W gs gt k => sgn_out W gs gt (seed 1) 0 ⟨#[98]⟩ k
  have h3 : ∀ (W : World) (gs gt : Nat), SS W gs gt (seed 1) 0 1 → Calls Try.prog 59 #[.pointer (some ⟨gs, 0, none⟩)] W fun e w' => e = .returned (.int .i64 0) ∧ Below W.heap.size W w' := fun W gs gt k => left_any W gs gt (seed 1) 0 1 k (by decide)
  generalize sigR (seed 1) 0 0 ⟨#[97]⟩ = sg at *
  have H1 := Lib.hid h1
  have H2 := Lib.hid h2
  have H3 := Lib.hid h3
  clear h1 h2 h3 hs
  go_enter Try.func35, Try.ntmps35
  go_upto_region 5 with (first
    | (go_at_call 28; refine (seed_any 1 _).mono ?_; rintro e w1 ⟨rfl, hb1⟩)
    | (go_at_call 56; refine (hnew _).mono ?_; rintro e w2 ⟨gs, gt, rfl, hS2, hg2, ht2, hb2⟩; have HS2 := Lib.hid hS2; have HG2 := Lib.hid (And.intro (Nat.le_trans hb1.size hg2) (Nat.le_trans hb1.size ht2)); have HB2 := Lib.hid (hb1.trans (hb2.mono hb1.size)); clear hS2 hg2 ht2 hb2 hb1)
    | (go_at_call 60; refine (H1.out _ gs gt HS2.out).mono ?_; rintro e w3 ⟨rfl, hS3, hk3⟩; have HS3 := Lib.hid hS3; have HB3 := Lib.hid (hk3.below_two HB2.out HG2.out.1 HG2.out.2); clear hS3 hk3))
  go_wp2_with (first
    | (go_at_call 60; refine (H2.out _ gs gt HS3.out).mono ?_; rintro e w4 ⟨rfl, hb4⟩; have HS4 := Lib.hid (HS3.out.below hb4); have HB4 := Lib.hid (HB3.out.trans (hb4.mono HB3.out.size)); clear hb4)
    | (go_at_call 59; refine (H3.out _ gs gt HS4.out).mono ?_; rintro e w5 ⟨rfl, hb5⟩))
  go_ret
  exact ⟨rfl, HB4.out.trans (hb5.mono HB4.out.size)⟩
end Go.Proofs.Ytilehfdplgciiaa.Hand
