import Derived.Test.YtilehfdplgciiaaSg0
import Derived.Deep.QuietTactic
import Derived.BigQuiet
/-! The signer's methods. -/
namespace Go.Proofs.Ytilehfdplgciiaa.Hand
open Go.RowKit Go.Proofs.YtilehfdplgciiaaW.PrintWords Go.Proofs.Ytilehfdplgciiaa.PLM Go.Proofs.Ytilehfdplgciiaa.Plain
set_option linter.unusedVariables false
attribute [local go_sem ↓] Go.wp_at_zero Go.wp_at_succ

theorem new_any (w : World) (s : ByteArray) (h : Nat) (hs : s.size = 32) (h8 : h ≤ 8) :
    Calls Try.prog 56 #[.string s, .int .i64 h] w fun e w' => ∃ gs gt : Nat, e = .returned (.tuple #[.pointer (some ⟨gs, 0, none⟩), .int .i64 0]) ∧ SS w' gs gt s h 0 ∧ w.heap.size ≤ gs ∧ w.heap.size ≤ gt ∧ Below w.heap.size w w' := by
  have HS := Lib.hid hs
  have H8 := Lib.hid h8
  have hat : ∀ W : World, Calls Try.prog 57 #[.string s, .int .i64 h, .int .i64 0] W fun e w' => ∃ gs gt : Nat, e = .returned (.tuple #[.pointer (some ⟨gs, 0, none⟩), .int .i64 0]) ∧ SS w' gs gt s h 0 ∧ W.heap.size ≤ gs ∧ W.heap.size ≤ gt ∧ Below W.heap.size W w' := fun W => at_any W s h 0 HS.out H8.out (Nat.zero_le _)
  clear hs h8
  go_enter Try.func56, Try.ntmps56
  go_wp2_with (go_at_call 57; refine (hat _).mono ?_; rintro e w2 ⟨gs, gt, rfl, hSS, hg, ht, hb⟩)
  go_ret2
  exact ⟨gs, gt, rfl, hSS, hg, ht, hb⟩
theorem new_bad (w : World) (s : ByteArray) (h x : Int) (hat : ∀ W : World, Calls Try.prog 57 #[.string s, .int .i64 h, .int .i64 0] W fun e w' => e = .returned (.tuple #[.pointer none, .int .i64 x]) ∧ W = w') :
    Calls Try.prog 56 #[.string s, .int .i64 h] w fun e w' => e = .returned (.tuple #[.pointer none, .int .i64 x]) ∧ w = w' := by
  go_enter Try.func56, Try.ntmps56
  go_wp2_with (go_at_call 57; refine (hat _).mono ?_; rintro e w2 ⟨rfl, rfl⟩)
  go_ret2
  exact ⟨rfl, rfl⟩
theorem next_none (w : World) (v : Value) (hn : Calls Try.prog 78 #[v] w fun e w' => e = .returned (.bool true) ∧ w = w') :
    Calls Try.prog 58 #[v] w fun e w' => e = .returned (.int .i64 0) ∧ w = w' := by
  go_enter Try.func58, Try.ntmps58
  go_wp2_with (go_at_call 78; refine hn.mono ?_; rintro e w2 ⟨rfl, rfl⟩)
  go_ret
  exact ⟨rfl, rfl⟩
theorem next_any (w : World) (gs gt : Nat) (s : ByteArray) (h n : Nat) (k : SS w gs gt s h n) :
    Calls Try.prog 58 #[.pointer (some ⟨gs, 0, none⟩)] w fun e w' => e = .returned (.int .i64 n) ∧ w = w' := by
  have hn := k.alive
  have c2 := k.1.c2
  clear k
  go_enter Try.func58, Try.ntmps58
  go_wp2_with (go_at_call 78; refine hn.mono ?_; rintro e w2 ⟨rfl, rfl⟩)
  go_ret
  exact ⟨rfl, rfl⟩
theorem left_none (w : World) (v : Value) (hn : Calls Try.prog 78 #[v] w fun e w' => e = .returned (.bool true) ∧ w = w') :
    Calls Try.prog 59 #[v] w fun e w' => e = .returned (.int .i64 0) ∧ w = w' := by
  go_enter Try.func59, Try.ntmps59
  go_wp2_with (go_at_call 78; refine hn.mono ?_; rintro e w2 ⟨rfl, rfl⟩)
  go_ret
  exact ⟨rfl, rfl⟩
theorem left_any (w : World) (gs gt : Nat) (s : ByteArray) (h n : Nat) (k : SS w gs gt s h n) (hN : n ≤ 2 ^ h) :
    Calls Try.prog 59 #[.pointer (some ⟨gs, 0, none⟩)] w fun e w' => e = .returned (.int .i64 ((2 ^ h - n : Nat) : Int)) ∧ Below w.heap.size w w' := by
  have hn := k.alive
  have c2 := k.1.c2
  have c3 := k.1.c3
  have hp := pow_le8 k.2.2.2
  have hw : wrap64 (((2 ^ h : Nat) : Int) - (n : Int)) = ((2 ^ h - n : Nat) : Int) := by unfold wrap64; omega
  have hlv : ∀ m : Nat, Calls Try.prog 45 #[.pointer (some ⟨gt, 0, none⟩)] (w.drewN m) fun e w' => e = .returned (.int .i64 ((2 ^ h : Nat) : Int)) ∧ w' = w.drewN m := fun m => ((k.2.1.below (pw_below_drewN (Below.refl _ _) m)).leaves k.2.2.1 k.2.2.2).mono fun e w' h => ⟨h.1, h.2.symm⟩
  generalize ((2 ^ h - n : Nat) : Int) = L at *
  generalize ((2 ^ h : Nat) : Int) = N at *
  have HW := Lib.hid hw
  clear k hw hN hp
  go_enter Try.func59, Try.ntmps59
  go_upto_region 3 with (go_at_call 78; refine hn.mono ?_; rintro e w2 ⟨rfl, rfl⟩)
  clear hn
  go_quiet ((go_at_call 45; exact Calls.quiet_of_same (hlv _)))
  go_wp2
  go_ret
  exact ⟨ret_i64 HW.out, pw_below_drewN (Below.refl _ _) _⟩
theorem sgn_none (w : World) (v : Value) (m : ByteArray) (hn : Calls Try.prog 78 #[v] w fun e w' => e = .returned (.bool true) ∧ w = w') :
    Calls Try.prog 60 #[v, .string m] w fun e w' => e = .returned (.tuple #[.string ⟨#[]⟩, .int .i64 18]) ∧ w = w' := by
  go_enter Try.func60, Try.ntmps60
  go_wp2_with (go_at_call 78; refine hn.mono ?_; rintro e w2 ⟨rfl, rfl⟩)
  go_ret2
  exact ⟨rfl, rfl⟩
theorem skey_none (w : World) (v : Value) (hn : ∀ o : Obj, Calls Try.prog 78 #[v] (w.alloc o) fun e w' => e = .returned (.bool true) ∧ w.alloc o = w') :
    Calls Try.prog 61 #[v] w fun e w' => e = .returned (.agg #[.int .i64 0, .string ⟨#[]⟩, .string ⟨#[]⟩]) ∧ Below w.heap.size w w' := by
  have hr := heap_alloc_new w (.cells #[.int .i64 0, .string ⟨#[]⟩, .string ⟨#[]⟩] 58)
  have HR := Lib.hid hr
  have l0 := blk_frozen hr 0
  have l1 := blk_frozen hr 1
  have l2 := blk_frozen hr 2
  have q0 := (blk_cell hr 0).trans rfl
  have q1 := (blk_cell hr 1).trans rfl
  have q2 := (blk_cell hr 2).trans rfl
  clear hr
  go_enter Try.func61, Try.ntmps61
  go_upto_region 1 with fail
  have hn1 := hn (.cells #[.int .i64 0, .string ⟨#[]⟩, .string ⟨#[]⟩] 58)
  clear hn
  have HB := Lib.hid (below_alloc (Below.refl w.heap.size w) (.cells #[.int .i64 0, .string ⟨#[]⟩, .string ⟨#[]⟩] 58))
  generalize w.alloc (.cells #[.int .i64 0, .string ⟨#[]⟩, .string ⟨#[]⟩] 58) = w1 at *
  obtain ⟨gr, hgr⟩ : ∃ gr, gr = w.heap.size := ⟨_, rfl⟩
  rw [← hgr] at HR l0 l1 l2 q0 q1 q2 ⊢
  have HGR := Lib.hid hgr
  clear hgr
  go_wp2_with (go_at_call 78; refine hn1.mono ?_; rintro e w2 ⟨rfl, rfl⟩)
  have hfin : (((w1.setCell ⟨gr, 0, none⟩ (.int .i64 0)).setCell ⟨gr, 1, none⟩ (.string ⟨#[]⟩)).setCell ⟨gr, 2, none⟩ (.string ⟨#[]⟩)).heap[gr]? = some (.cells #[.int .i64 0, .string ⟨#[]⟩, .string ⟨#[]⟩] 58 (0, 0)) := by
    rw [blk_set (blk_set (blk_set HR.out 0 _) 1 _) 2 _]
    rfl
  exact bodyPost_ret (v := .agg #[.int .i64 0, .string ⟨#[]⟩, .string ⟨#[]⟩]) (results_cell_row Try.results61 _ _ gr 58 _ (0, 0) _ rfl hfin Try.underlying58 rfl (by rw [size_key]; rfl)) rfl ⟨rfl, ((HB.out.setCell (p := ⟨gr, 0, none⟩) (by rw [HGR.out]; exact Nat.le_refl _) _).setCell (p := ⟨gr, 1, none⟩) (by rw [HGR.out]; exact Nat.le_refl _) _).setCell (p := ⟨gr, 2, none⟩) (by rw [HGR.out]; exact Nat.le_refl _) _⟩
theorem skip_none (w : World) (v : Value) (n : Int) (hn : Calls Try.prog 78 #[v] w fun e w' => e = .returned (.bool true) ∧ w = w') :
    Calls Try.prog 62 #[v, .int .i64 n] w fun e w' => e = .returned (.int .i64 0) ∧ w = w' := by
  go_enter Try.func62, Try.ntmps62
  go_wp2_with (go_at_call 78; refine hn.mono ?_; rintro e w2 ⟨rfl, rfl⟩)
  go_ret
  exact ⟨rfl, rfl⟩
theorem fork_none (w : World) (v : Value) (hn : Calls Try.prog 78 #[v] w fun e w' => e = .returned (.bool true) ∧ w = w') :
    Calls Try.prog 63 #[v] w fun e w' => e = .returned (.pointer none) ∧ w = w' := by
  go_enter Try.func63, Try.ntmps63
  go_wp2_with (go_at_call 78; refine hn.mono ?_; rintro e w2 ⟨rfl, rfl⟩)
  go_ret
  exact ⟨rfl, rfl⟩
theorem save_none (w : World) (v : Value) (hn : Calls Try.prog 78 #[v] w fun e w' => e = .returned (.bool true) ∧ w = w') :
    Calls Try.prog 39 #[v] w fun e w' => e = .returned (.string ⟨#[]⟩) ∧ w = w' := by
  go_enter Try.func39, Try.ntmps39
  go_wp2_with (go_at_call 78; refine hn.mono ?_; rintro e w2 ⟨rfl, rfl⟩)
  go_ret
  exact ⟨rfl, rfl⟩
end Go.Proofs.Ytilehfdplgciiaa.Hand
