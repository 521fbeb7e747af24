import Derived.Test.YtilehfdplgciiaaTree
import Derived.Test.YtilehfdplgciiaaWEqStruct
import Derived.Test.YtilehfdplgciiaaKeyEq
import Derived.Deep.QuietTactic
import Derived.BigQuiet
/-! The signer in memory; its small methods. -/
namespace Go.Proofs.Ytilehfdplgciiaa.Hand
open Go.RowKit Go.Proofs.YtilehfdplgciiaaW.PrintWords Go.Proofs.Ytilehfdplgciiaa.PLM Go.Proofs.Ytilehfdplgciiaa.Plain
set_option linter.unusedVariables false
attribute [local go_sem ↓] Go.wp_at_zero Go.wp_at_succ

theorem guard_state : Try.prog.eqGuardType Try.prog.depth 89 = false := by kernel_rfl
theorem held_state : Try.prog.stoodInHeld 89 = false := by kernel_rfl
theorem state_eq (a a2 b b2 : Int) (s s2 : ByteArray) (w : World) : (Op.equalIn 10000 89 (.agg #[.string s, .int .i64 a, .int .i64 a2]) (.agg #[.string s2, .int .i64 b, .int .i64 b2])).run Try.prog w = .ok ((s.toList == s2.toList) && ((a == b) && (a2 == b2))) w := by
  refine eqA_of (d := 9999) Try.underlying89 held_state ?_
  refine eqf_cons rfl (part_key _ _ _ _ agg_str rfl w) (part_key _ _ _ _ agg_str rfl w) (run_equalIn_string w 9998 9 s s2 Try.underlying9) ?_
  refine eqf_cons rfl (part_key _ _ _ _ agg_int rfl w) (part_key _ _ _ _ agg_int rfl w) (run_equalIn_int w 9998 3 .i64 .i64 a b Try.underlying3) ?_
  exact eqf_last rfl (part_key _ _ _ _ agg_int rfl w) (part_key _ _ _ _ agg_int rfl w) (run_equalIn_int w 9998 3 .i64 .i64 a2 b2 Try.underlying3)
theorem toList_none : (⟨#[]⟩ : ByteArray).toList = [] := by rw [ByteArray.toList_eq]
/-- The signer's block. -/
def Sg (W : World) (g : Nat) (s : ByteArray) (h n : Int) (t : Value) : Prop := W.heap[g]? = some (.cells #[.string s, .int .i64 h, .int .i64 n, t] 91 (0, 0))
theorem Sg.c0 {W : World} {g : Nat} {s : ByteArray} {h n : Int} {t : Value} (k : Sg W g s h n t) : W.cell? ⟨g, 0, none⟩ = some (.string s) := (blk_cell k 0).trans rfl
theorem Sg.c1 {W : World} {g : Nat} {s : ByteArray} {h n : Int} {t : Value} (k : Sg W g s h n t) : W.cell? ⟨g, 1, none⟩ = some (.int .i64 h) := (blk_cell k 1).trans rfl
theorem Sg.c2 {W : World} {g : Nat} {s : ByteArray} {h n : Int} {t : Value} (k : Sg W g s h n t) : W.cell? ⟨g, 2, none⟩ = some (.int .i64 n) := (blk_cell k 2).trans rfl
theorem Sg.c3 {W : World} {g : Nat} {s : ByteArray} {h n : Int} {t : Value} (k : Sg W g s h n t) : W.cell? ⟨g, 3, none⟩ = some t := (blk_cell k 3).trans rfl
theorem Sg.f2 {W : World} {g : Nat} {s : ByteArray} {h n : Int} {t : Value} (k : Sg W g s h n t) : W.frozen? ⟨g, 2, none⟩ = false := blk_frozen k 2
theorem none_nil (w : World) :
    Calls Try.prog 78 #[.pointer none] w fun e w' => e = .returned (.bool true) ∧ w = w' := by
  go_enter Try.func78, Try.ntmps78
  go_wp2
  go_ret
  exact ⟨rfl, rfl⟩
theorem none_any (w : World) (g : Nat) (s : ByteArray) (h n : Int) (t : Value) (k : Sg w g s h n t) (hs : 0 < s.size) :
    Calls Try.prog 78 #[.pointer (some ⟨g, 0, none⟩)] w fun e w' => e = .returned (.bool false) ∧ w = w' := by
  have c0 := k.c0
  have c1 := k.c1
  have c2 := k.c2
  have ge := guard_state
  have he : ∀ W : World, (Op.equalIn 10000 89 (.agg #[.string s, .int .i64 h, .int .i64 n]) (.agg #[.string ⟨#[]⟩, .int .i64 0, .int .i64 0])).run Try.prog W = .ok false W := fun W => by
    rw [state_eq]
    have : (s.toList == (⟨#[]⟩ : ByteArray).toList) = false := by
      have := (ne_empty hs).1
      cases hq : s.toList with
      | nil => rw [hq] at this; simp at this
      | cons a b => rw [toList_none]; rfl
    rw [this]
    rfl
  clear k hs
  go_enter Try.func78, Try.ntmps78
  go_wp2
  go_ret
  exact ⟨rfl, rfl⟩
theorem none_zero (w : World) (g : Nat) (t : Value) (k : Sg w g ⟨#[]⟩ 0 0 t) :
    Calls Try.prog 78 #[.pointer (some ⟨g, 0, none⟩)] w fun e w' => e = .returned (.bool true) ∧ w = w' := by
  have c0 := k.c0
  have c1 := k.c1
  have c2 := k.c2
  have ge := guard_state
  have he : ∀ W : World, (Op.equalIn 10000 89 (.agg #[.string ⟨#[]⟩, .int .i64 0, .int .i64 0]) (.agg #[.string ⟨#[]⟩, .int .i64 0, .int .i64 0])).run Try.prog W = .ok true W := fun W => by
    rw [state_eq]
    simp
  clear k
  go_enter Try.func78, Try.ntmps78
  go_wp2
  go_ret
  exact ⟨rfl, rfl⟩
/-- A signer with its tree. -/
def SS (W : World) (gs gt : Nat) (s : ByteArray) (h n : Nat) : Prop := Sg W gs s h n (.pointer (some ⟨gt, 0, none⟩)) ∧ TS W gt s h ∧ s.size = 32 ∧ h ≤ 8
theorem SS.lt {W : World} {gs gt : Nat} {s : ByteArray} {h n : Nat} (k : SS W gs gt s h n) : gs < W.heap.size := blk_lt k.1
theorem SS.below {W W2 : World} {gs gt : Nat} {s : ByteArray} {h n : Nat} (k : SS W gs gt s h n) (hb : Below W.heap.size W W2) : SS W2 gs gt s h n := ⟨(hb.block _ (blk_lt k.1)).trans k.1, k.2.1.below hb, k.2.2⟩
theorem SS.alive {W : World} {gs gt : Nat} {s : ByteArray} {h n : Nat} (k : SS W gs gt s h n) : Calls Try.prog 78 #[.pointer (some ⟨gs, 0, none⟩)] W fun e w' => e = .returned (.bool false) ∧ W = w' := none_any W gs s h n _ k.1 (by have := k.2.2.1; omega)
/-- A tree's block is no signer's. -/
theorem SS.ne {W : World} {gs gt : Nat} {s : ByteArray} {h n : Nat} (k : SS W gs gt s h n) : gs ≠ gt := by
  obtain ⟨v, hT, _⟩ := k.2.1
  have h1 := k.1
  intro e
  subst e
  unfold Tr at hT
  unfold Sg at h1
  rw [h1] at hT
  injection hT with hT
  injection hT with _ hT
  exact absurd hT (by decide)
/-- The tree stands behind a store into another type's block. -/
theorem TS.but {W W2 : World} {gt : Nat} {s : ByteArray} {h : Nat} (t : TS W gt s h) {S : Nat → Prop} (hk : Kp S W W2) (hn : ¬ S gt) (hS : ∀ i, S i → ∃ cs ty fr, W.heap[i]? = some (.cells cs ty fr) ∧ ty ≠ 9 ∧ ty ≠ 26) : TS W2 gt s h := by
  obtain ⟨v, hT, hv⟩ := t
  refine ⟨v, (hk.block gt (blk_lt hT) hn).trans hT, hv.imp id fun hv => ?_⟩
  obtain ⟨b, c, rs, e, hb, hh, hr⟩ := hv
  have nb : ∀ (j : Nat) (xs : Array Value) (ty : TypeId), W.heap[j]? = some (.cells xs ty (0, 0)) → (ty = 9 ∨ ty = 26) → ¬ S j := by
    intro j xs ty hj hty hSj
    obtain ⟨cs, ty2, fr, h1, h2, h3⟩ := hS j hSj
    rw [hj] at h1
    injection h1 with h1
    injection h1 with _ h1
    rcases hty with rfl | rfl
    · exact h2 h1.symm
    · exact h3 h1.symm
  refine ⟨b, c, rs, e, hb, (hk.block b (blk_lt hh) (nb b _ _ hh (.inr rfl))).trans hh, fun i hi => ?_⟩
  obtain ⟨u, hu, b2, c2, rs2, e2, hb2, hh2, hr2⟩ := hr i hi
  exact ⟨u, hu, b2, c2, rs2, e2, hb2, (hk.block b2 (blk_lt hh2) (nb b2 _ _ hh2 (.inl rfl))).trans hh2, hr2⟩
theorem SS.keep_t {W W2 : World} {gs gt : Nat} {s : ByteArray} {h n : Nat} (k : SS W gs gt s h n) (hk : Kp (fun i => i = gt) W W2) (t : TS W2 gt s h) : SS W2 gs gt s h n := ⟨(hk.block gs (blk_lt k.1) k.ne).trans k.1, t, k.2.2⟩
theorem at_size (w : World) (s : ByteArray) (h n : Int) (hs : s.size ≠ 32) :
    Calls Try.prog 57 #[.string s, .int .i64 h, .int .i64 n] w fun e w' => e = .returned (.tuple #[.pointer none, .int .i64 18]) ∧ w = w' := by
  go_enter Try.func57, Try.ntmps57
  go_wp2_with (go_at_call 40; refine (gen_size _ s h hs).mono ?_; rintro e w2 ⟨rfl, rfl⟩)
  go_ret2
  exact ⟨rfl, rfl⟩
theorem at_height (w : World) (s : ByteArray) (h n : Int) (hs : s.size = 32) (hh : h < 0 ∨ 8 < h) :
    Calls Try.prog 57 #[.string s, .int .i64 h, .int .i64 n] w fun e w' => e = .returned (.tuple #[.pointer none, .int .i64 1]) ∧ w = w' := by
  have HH := Lib.hid hh
  clear hh
  go_enter Try.func57, Try.ntmps57
  go_wp2_with (go_at_call 40; refine (gen_height _ s h hs HH.out).mono ?_; rintro e w2 ⟨rfl, rfl⟩)
  go_ret2
  exact ⟨rfl, rfl⟩
theorem at_range (w : World) (s : ByteArray) (h : Nat) (n : Int) (hs : s.size = 32) (h8 : h ≤ 8) (hn : n < 0 ∨ ((2 ^ h : Nat) : Int) < n) :
    Calls Try.prog 57 #[.string s, .int .i64 h, .int .i64 n] w fun e w' => e = .returned (.tuple #[.pointer none, .int .i64 1]) ∧ Below w.heap.size w w' := by
  have HS := Lib.hid hs
  have H8 := Lib.hid h8
  have hgen : ∀ W : World, _ := fun W => gen_any W s h HS.out H8.out
  have hlv : ∀ (W : World) (g : Nat), TS W g s h → Calls Try.prog 45 #[.pointer (some ⟨g, 0, none⟩)] W fun e w' => e = .returned (.int .i64 ((2 ^ h : Nat) : Int)) ∧ W = w' := fun W g t => t.leaves HS.out H8.out
  generalize ((2 ^ h : Nat) : Int) = N at *
  have HLV := Lib.hid hlv
  clear hs h8 hlv
  by_cases h0 : n < 0
  · clear hn
    go_enter Try.func57, Try.ntmps57
    go_wp2_with (go_at_call 40; refine (hgen _).mono ?_; rintro e w2 ⟨g, rfl, ht, hg, hb⟩)
    go_ret2
    exact ⟨rfl, hb⟩
  · have h1 : N < n := by omega
    clear hn
    go_enter Try.func57, Try.ntmps57
    go_wp2_with (first | (go_at_call 40; refine (hgen _).mono ?_; rintro e w2 ⟨g, rfl, ht, hg, hb⟩; have HT := Lib.hid ht; clear ht) | (go_at_call 45; refine (HLV.out _ g HT.out).mono ?_; rintro e w3 ⟨rfl, rfl⟩))
    go_ret2
    exact ⟨rfl, hb⟩
theorem at_any (w : World) (s : ByteArray) (h n : Nat) (hs : s.size = 32) (h8 : h ≤ 8) (hn : n ≤ 2 ^ h) :
    Calls Try.prog 57 #[.string s, .int .i64 h, .int .i64 n] w fun e w' => ∃ gs gt : Nat, e = .returned (.tuple #[.pointer (some ⟨gs, 0, none⟩), .int .i64 0]) ∧ SS w' gs gt s h n ∧ w.heap.size ≤ gs ∧ w.heap.size ≤ gt ∧ Below w.heap.size w w' := by
  have HS := Lib.hid hs
  have H8 := Lib.hid h8
  have hgen : ∀ W : World, _ := fun W => gen_any W s h HS.out H8.out
  have hlv : ∀ (W : World) (g : Nat), TS W g s h → Calls Try.prog 45 #[.pointer (some ⟨g, 0, none⟩)] W fun e w' => e = .returned (.int .i64 ((2 ^ h : Nat) : Int)) ∧ W = w' := fun W g t => t.leaves HS.out H8.out
  have h1 : (n : Int) ≤ ((2 ^ h : Nat) : Int) := by omega
  clear hn
  generalize ((2 ^ h : Nat) : Int) = N at *
  have HLV := Lib.hid hlv
  clear hs h8 hlv
  go_enter Try.func57, Try.ntmps57
  go_wp2_with (first | (go_at_call 40; refine (hgen _).mono ?_; rintro e w2 ⟨g, rfl, ht, hg, hb⟩; have HT := Lib.hid ht; clear ht) | (go_at_call 45; refine (HLV.out _ g HT.out).mono ?_; rintro e w3 ⟨rfl, rfl⟩))
  go_ret2
  exact ⟨w2.heap.size, g, rfl, ⟨heap_alloc_new w2 _, HT.out.below (below_alloc (Below.refl _ _) _), HS.out, H8.out⟩, hb.size, hg, below_alloc hb _⟩
end Go.Proofs.Ytilehfdplgciiaa.Hand
/-! The signer's methods. -/
namespace Go.Proofs.Ytilehfdplgciiaa.Hand
open Go.RowKit Go.Proofs.YtilehfdplgciiaaW.PrintWords Go.Proofs.Ytilehfdplgciiaa.PLM Go.Proofs.Ytilehfdplgciiaa.Plain
set_option linter.unusedVariables false
attribute [local go_sem ↓] Go.wp_at_zero Go.wp_at_succ

theorem new_any (w : World) (s : ByteArray) (h : Nat) (hs : s.size = 32) (h8 : h ≤ 8) :
    Calls Try.prog 56 #[.string s, .int .i64 h] w fun e w' => ∃ gs gt : Nat, e = .returned (.tuple #[.pointer (some ⟨gs, 0, none⟩), .int .i64 0]) ∧ SS w' gs gt s h 0 ∧ w.heap.size ≤ gs ∧ w.heap.size ≤ gt ∧ Below w.heap.size w w' := by
  have HS := Lib.hid hs
  have H8 := Lib.hid h8
  have hat : ∀ W : World, Calls Try.prog 57 #[.string s, .int .i64 h, .int .i64 0] W fun e w' => ∃ gs gt : Nat, e = .returned (.tuple #[.pointer (some ⟨gs, 0, none⟩), .int .i64 0]) ∧ SS w' gs gt s h 0 ∧ W.heap.size ≤ gs ∧ W.heap.size ≤ gt ∧ Below W.heap.size W w' := fun W => at_any W s h 0 HS.out H8.out (Nat.zero_le _)
  clear hs h8
  go_enter Try.func56, Try.ntmps56
  go_wp2_with (go_at_call 57; refine (hat _).mono ?_; rintro e w2 ⟨gs, gt, rfl, hSS, hg, ht, hb⟩)
  go_ret2
  exact ⟨gs, gt, rfl, hSS, hg, ht, hb⟩
theorem new_bad (w : World) (s : ByteArray) (h x : Int) (hat : ∀ W : World, Calls Try.prog 57 #[.string s, .int .i64 h, .int .i64 0] W fun e w' => e = .returned (.tuple #[.pointer none, .int .i64 x]) ∧ W = w') :
    Calls Try.prog 56 #[.string s, .int .i64 h] w fun e w' => e = .returned (.tuple #[.pointer none, .int .i64 x]) ∧ w = w' := by
  go_enter Try.func56, Try.ntmps56
  go_wp2_with (go_at_call 57; refine (hat _).mono ?_; rintro e w2 ⟨rfl, rfl⟩)
  go_ret2
  exact ⟨rfl, rfl⟩
theorem next_none (w : World) (v : Value) (hn : Calls Try.prog 78 #[v] w fun e w' => e = .returned (.bool true) ∧ w = w') :
    Calls Try.prog 58 #[v] w fun e w' => e = .returned (.int .i64 0) ∧ w = w' := by
  go_enter Try.func58, Try.ntmps58
  go_wp2_with (go_at_call 78; refine hn.mono ?_; rintro e w2 ⟨rfl, rfl⟩)
  go_ret
  exact ⟨rfl, rfl⟩
theorem next_any (w : World) (gs gt : Nat) (s : ByteArray) (h n : Nat) (k : SS w gs gt s h n) :
    Calls Try.prog 58 #[.pointer (some ⟨gs, 0, none⟩)] w fun e w' => e = .returned (.int .i64 n) ∧ w = w' := by
  have hn := k.alive
  have c2 := k.1.c2
  clear k
  go_enter Try.func58, Try.ntmps58
  go_wp2_with (go_at_call 78; refine hn.mono ?_; rintro e w2 ⟨rfl, rfl⟩)
  go_ret
  exact ⟨rfl, rfl⟩
theorem left_none (w : World) (v : Value) (hn : Calls Try.prog 78 #[v] w fun e w' => e = .returned (.bool true) ∧ w = w') :
    Calls Try.prog 59 #[v] w fun e w' => e = .returned (.int .i64 0) ∧ w = w' := by
  go_enter Try.func59, Try.ntmps59
  go_wp2_with (go_at_call 78; refine hn.mono ?_; rintro e w2 ⟨rfl, rfl⟩)
  go_ret
  exact ⟨rfl, rfl⟩
theorem left_any (w : World) (gs gt : Nat) (s : ByteArray) (h n : Nat) (k : SS w gs gt s h n) (hN : n ≤ 2 ^ h) :
    Calls Try.prog 59 #[.pointer (some ⟨gs, 0, none⟩)] w fun e w' => e = .returned (.int .i64 ((2 ^ h - n : Nat) : Int)) ∧ Below w.heap.size w w' := by
  have hn := k.alive
  have c2 := k.1.c2
  have c3 := k.1.c3
  have hp := pow_le8 k.2.2.2
  have hw : wrap64 (((2 ^ h : Nat) : Int) - (n : Int)) = ((2 ^ h - n : Nat) : Int) := by unfold wrap64; omega
  have hlv : ∀ m : Nat, Calls Try.prog 45 #[.pointer (some ⟨gt, 0, none⟩)] (w.drewN m) fun e w' => e = .returned (.int .i64 ((2 ^ h : Nat) : Int)) ∧ w' = w.drewN m := fun m => ((k.2.1.below (pw_below_drewN (Below.refl _ _) m)).leaves k.2.2.1 k.2.2.2).mono fun e w' h => ⟨h.1, h.2.symm⟩
  generalize ((2 ^ h - n : Nat) : Int) = L at *
  generalize ((2 ^ h : Nat) : Int) = N at *
  have HW := Lib.hid hw
  clear k hw hN hp
  go_enter Try.func59, Try.ntmps59
  go_upto_region 3 with (go_at_call 78; refine hn.mono ?_; rintro e w2 ⟨rfl, rfl⟩)
  clear hn
  go_quiet ((go_at_call 45; exact Calls.quiet_of_same (hlv _)))
  go_wp2
  go_ret
  exact ⟨ret_i64 HW.out, pw_below_drewN (Below.refl _ _) _⟩
theorem sgn_none (w : World) (v : Value) (m : ByteArray) (hn : Calls Try.prog 78 #[v] w fun e w' => e = .returned (.bool true) ∧ w = w') :
    Calls Try.prog 60 #[v, .string m] w fun e w' => e = .returned (.tuple #[.string ⟨#[]⟩, .int .i64 18]) ∧ w = w' := by
  go_enter Try.func60, Try.ntmps60
  go_wp2_with (go_at_call 78; refine hn.mono ?_; rintro e w2 ⟨rfl, rfl⟩)
  go_ret2
  exact ⟨rfl, rfl⟩
theorem skey_none (w : World) (v : Value) (hn : ∀ o : Obj, Calls Try.prog 78 #[v] (w.alloc o) fun e w' => e = .returned (.bool true) ∧ w.alloc o = w') :
    Calls Try.prog 61 #[v] w fun e w' => e = .returned (.agg #[.int .i64 0, .string ⟨#[]⟩, .string ⟨#[]⟩]) ∧ Below w.heap.size w w' := by
  have hr := heap_alloc_new w (.cells #[.int .i64 0, .string ⟨#[]⟩, .string ⟨#[]⟩] 58)
  have HR := Lib.hid hr
  have l0 := blk_frozen hr 0
  have l1 := blk_frozen hr 1
  have l2 := blk_frozen hr 2
  have q0 := (blk_cell hr 0).trans rfl
  have q1 := (blk_cell hr 1).trans rfl
  have q2 := (blk_cell hr 2).trans rfl
  clear hr
  go_enter Try.func61, Try.ntmps61
  go_upto_region 1 with fail
  have hn1 := hn (.cells #[.int .i64 0, .string ⟨#[]⟩, .string ⟨#[]⟩] 58)
  clear hn
  have HB := Lib.hid (below_alloc (Below.refl w.heap.size w) (.cells #[.int .i64 0, .string ⟨#[]⟩, .string ⟨#[]⟩] 58))
  generalize w.alloc (.cells #[.int .i64 0, .string ⟨#[]⟩, .string ⟨#[]⟩] 58) = w1 at *
  obtain ⟨gr, hgr⟩ : ∃ gr, gr = w.heap.size := ⟨_, rfl⟩
  rw [← hgr] at HR l0 l1 l2 q0 q1 q2 ⊢
  have HGR := Lib.hid hgr
  clear hgr
  go_wp2_with (go_at_call 78; refine hn1.mono ?_; rintro e w2 ⟨rfl, rfl⟩)
  have hfin : (((w1.setCell ⟨gr, 0, none⟩ (.int .i64 0)).setCell ⟨gr, 1, none⟩ (.string ⟨#[]⟩)).setCell ⟨gr, 2, none⟩ (.string ⟨#[]⟩)).heap[gr]? = some (.cells #[.int .i64 0, .string ⟨#[]⟩, .string ⟨#[]⟩] 58 (0, 0)) := by
    rw [blk_set (blk_set (blk_set HR.out 0 _) 1 _) 2 _]
    rfl
  exact bodyPost_ret (v := .agg #[.int .i64 0, .string ⟨#[]⟩, .string ⟨#[]⟩]) (results_cell_row Try.results61 _ _ gr 58 _ (0, 0) _ rfl hfin Try.underlying58 rfl (by rw [size_key]; rfl)) rfl ⟨rfl, ((HB.out.setCell (p := ⟨gr, 0, none⟩) (by rw [HGR.out]; exact Nat.le_refl _) _).setCell (p := ⟨gr, 1, none⟩) (by rw [HGR.out]; exact Nat.le_refl _) _).setCell (p := ⟨gr, 2, none⟩) (by rw [HGR.out]; exact Nat.le_refl _) _⟩
theorem skip_none (w : World) (v : Value) (n : Int) (hn : Calls Try.prog 78 #[v] w fun e w' => e = .returned (.bool true) ∧ w = w') :
    Calls Try.prog 62 #[v, .int .i64 n] w fun e w' => e = .returned (.int .i64 0) ∧ w = w' := by
  go_enter Try.func62, Try.ntmps62
  go_wp2_with (go_at_call 78; refine hn.mono ?_; rintro e w2 ⟨rfl, rfl⟩)
  go_ret
  exact ⟨rfl, rfl⟩
theorem fork_none (w : World) (v : Value) (hn : Calls Try.prog 78 #[v] w fun e w' => e = .returned (.bool true) ∧ w = w') :
    Calls Try.prog 63 #[v] w fun e w' => e = .returned (.pointer none) ∧ w = w' := by
  go_enter Try.func63, Try.ntmps63
  go_wp2_with (go_at_call 78; refine hn.mono ?_; rintro e w2 ⟨rfl, rfl⟩)
  go_ret
  exact ⟨rfl, rfl⟩
theorem save_none (w : World) (v : Value) (hn : Calls Try.prog 78 #[v] w fun e w' => e = .returned (.bool true) ∧ w = w') :
    Calls Try.prog 39 #[v] w fun e w' => e = .returned (.string ⟨#[]⟩) ∧ w = w' := by
  go_enter Try.func39, Try.ntmps39
  go_wp2_with (go_at_call 78; refine hn.mono ?_; rintro e w2 ⟨rfl, rfl⟩)
  go_ret
  exact ⟨rfl, rfl⟩
end Go.Proofs.Ytilehfdplgciiaa.Hand
/-! The signer's Sign and Key, walked. -/
namespace Go.Proofs.Ytilehfdplgciiaa.Hand
open Go.RowKit Go.Proofs.YtilehfdplgciiaaW.PrintWords Go.Proofs.Ytilehfdplgciiaa.PLM Go.Proofs.Ytilehfdplgciiaa.Plain
set_option linter.unusedVariables false
attribute [local go_sem ↓] Go.wp_at_zero Go.wp_at_succ

theorem SS.set {W : World} {gs gt : Nat} {s : ByteArray} {h n : Nat} (k : SS W gs gt s h n) (n2 : Nat) : SS (W.setCell ⟨gs, 2, none⟩ (.int .i64 n2)) gs gt s h n2 := by
  refine ⟨?_, ?_, k.2.2⟩
  · have := blk_set k.1 2 (.int .i64 n2)
    exact this
  · exact k.2.1.but (S := fun i => i = gs) ((Kp.refl (fun i => i = gs) W).setCell (p := ⟨gs, 2, none⟩) (.inl rfl) _) (fun e => k.ne e.symm) (fun i hi => ⟨_, _, _, (congrArg (fun j => W.heap[j]?) hi).trans k.1, by decide, by decide⟩)
theorem sgn_out (w : World) (gs gt : Nat) (s : ByteArray) (h : Nat) (m : ByteArray) (k : SS w gs gt s h (2 ^ h)) :
    Calls Try.prog 60 #[.pointer (some ⟨gs, 0, none⟩), .string m] w fun e w' => e = .returned (.tuple #[.string ⟨#[]⟩, .int .i64 19]) ∧ Below w.heap.size w w' := by
  have hn := k.alive
  have hl := left_any w gs gt s h (2 ^ h) k (Nat.le_refl _)
  rw [Nat.sub_self] at hl
  clear k
  go_enter Try.func60, Try.ntmps60
  go_wp2_with (first | (go_at_call 78; refine hn.mono ?_; rintro e w2 ⟨rfl, rfl⟩) | (go_at_call 59; refine hl.mono ?_; rintro e w2 ⟨rfl, hb2⟩))
  go_ret2
  exact ⟨rfl, hb2⟩
set_option maxHeartbeats 1000000 in
theorem sgn_in (w : World) (gs gt : Nat) (s : ByteArray) (h n : Nat) (m : ByteArray) (k : SS w gs gt s h n) (hN : n < 2 ^ h) (hm : m.size ≤ 1000) :
    Calls Try.prog 60 #[.pointer (some ⟨gs, 0, none⟩), .string m] w fun e w' => e = .returned (.tuple #[.string (sigR s h n m), .int .i64 0]) ∧ SS w' gs gt s h (n + 1) ∧ Kp (fun i => i = gs ∨ i = gt) w w' := by
  have hn := k.alive
  have hl := left_any w gs gt s h n k (Nat.le_of_lt hN)
  have hp := pow_le8 k.2.2.2
  have hsg : ∀ W : World, SS W gs gt s h n → Calls Try.prog 47 #[.pointer (some ⟨gt, 0, none⟩), .int .i64 n, .string m] W fun e w' => e = .returned (.tuple #[.string (sigR s h n m), .int .i64 0]) ∧ (∃ v, TG w' gt s h v) ∧ Kp (fun k => k = gt) W w' := fun W k => sign_in W gt s h n m k.2.1 k.2.2.1 k.2.2.2 hN hm
  have hne : (((2 ^ h - n : Nat) : Int) == 0) = false := by simp; omega
  have hs1 : wrap64 ((n : Int) + 1) = ((n + 1 : Nat) : Int) := by unfold wrap64; omega
  have HK := Lib.hid k
  have HSG := Lib.hid hsg
  have HS1 := Lib.hid hs1
  generalize ((2 ^ h - n : Nat) : Int) = L at *
  generalize sigR s h n m = sg at *
  clear k hsg hs1 hN hm hp
  go_enter Try.func60, Try.ntmps60
  go_upto_region 5 with (first | (go_at_call 78; refine hn.mono ?_; rintro e w2 ⟨rfl, rfl⟩) | (go_at_call 59; refine hl.mono ?_; rintro e w2 ⟨rfl, hb2⟩))
  clear hn hl
  have k2 := HK.out.below hb2
  have HK2 := Lib.hid k2
  have HB2 := Lib.hid hb2
  have c2 := k2.1.c2
  have c3 := k2.1.c3
  clear k2 hb2
  go_region_held3 (fun w' => w'.cell? ⟨gs, 2, none⟩ = some (.int .i64 n) ∧ w'.cell? ⟨gs, 3, none⟩ = some (.pointer (some ⟨gt, 0, none⟩))) (go_keep) ((go_at_call 47; refine (HSG.out _ (HK2.out.below (below_drew (Below.refl _ _)))).mono ?_; rintro e w3 ⟨rfl, ⟨v3, ht3⟩, hk3⟩; have k3 := (HK2.out.below (below_drew (Below.refl _ _))).keep_t hk3 ht3.ts; have HT3 := Lib.hid ht3; have HKP3 := Lib.hid hk3; have HK3 := Lib.hid k3; have d2 := k3.1.c2; have d3 := k3.1.c3; have e2 := k3.1.f2; clear ht3 hk3 k3))
  go_wp2
  go_ret2
  rw [HS1.out]
  refine ⟨rfl, HK3.out.set (n + 1), ?_⟩
  have q1 : Kp (fun i => i = gs ∨ i = gt) w w3 := (((Kp.of_below _ HB2.out).drew).then_ HKP3.out (fun i hi => .inl (.inr hi)))
  exact q1.setCell (p := ⟨gs, 2, none⟩) (.inl (.inl rfl)) _
set_option maxHeartbeats 1000000 in
theorem skey_any (w : World) (gs gt : Nat) (s : ByteArray) (h n : Nat) (k : SS w gs gt s h n) :
    Calls Try.prog 61 #[.pointer (some ⟨gs, 0, none⟩)] w fun e w' => e = .returned (.agg #[.int .i64 h, .string (nameOf s), .string (root s h)]) ∧ SS w' gs gt s h n ∧ Kp (fun i => i = gt) w w' := by
  have hn := fun o : Obj => (k.below (below_alloc (Below.refl _ _) o)).alive
  have hr := heap_alloc_new w (.cells #[.int .i64 0, .string ⟨#[]⟩, .string ⟨#[]⟩] 58)
  have k1 := k.below (below_alloc (Below.refl _ _) (.cells #[.int .i64 0, .string ⟨#[]⟩, .string ⟨#[]⟩] 58))
  have hky : ∀ W : World, SS W gs gt s h n → Calls Try.prog 42 #[.pointer (some ⟨gt, 0, none⟩)] W fun e w' => e = .returned (.agg #[.int .i64 h, .string (nameOf s), .string (root s h)]) ∧ (∃ v, TG w' gt s h v) ∧ Kp (fun k => k = gt) W w' := fun W k => key_lit W gt s h k.2.1 k.2.2.1 k.2.2.2
  have hlt := k.lt
  have hlt2 := k.2.1.lt
  have HKY := Lib.hid hky
  have HK1 := Lib.hid k1
  have HR := Lib.hid hr
  have c3 := k1.1.c3
  have hb1 := (Kp.refl (fun i => i = gt) w).alloc (.cells #[.int .i64 0, .string ⟨#[]⟩, .string ⟨#[]⟩] 58)
  have HB := Lib.hid hb1
  clear k hky k1 hr hb1
  generalize nameOf s = id at *
  generalize root s h = rt at *
  go_enter Try.func61, Try.ntmps61
  go_upto_region 1 with fail
  have hn1 := hn (.cells #[.int .i64 0, .string ⟨#[]⟩, .string ⟨#[]⟩] 58)
  clear hn
  generalize w.alloc (.cells #[.int .i64 0, .string ⟨#[]⟩, .string ⟨#[]⟩] 58) = w1 at *
  obtain ⟨gr, hgr⟩ : ∃ gr, gr = w.heap.size := ⟨_, rfl⟩
  rw [← hgr] at HR hlt hlt2 ⊢
  have HGR := Lib.hid hgr
  clear hgr
  have hnt : gr ≠ gt := by omega
  have hns : gr ≠ gs := by omega
  have HNT := Lib.hid hnt
  have HNS := Lib.hid hns
  clear hnt hns hlt hlt2
  go_wp2_with (first | (go_at_call 78; refine hn1.mono ?_; rintro e w2 ⟨rfl, rfl⟩) | (go_at_call 42; refine (HKY.out _ HK1.out).mono ?_; rintro e w3 ⟨rfl, ⟨v3, ht3⟩, hk3⟩; have hr3 := (hk3.block gr (blk_lt HR.out) HNT.out).trans HR.out; have HR3 := Lib.hid hr3; have HK3 := Lib.hid (HK1.out.keep_t hk3 ht3.ts); have HKP3 := Lib.hid hk3; have l0 := blk_frozen hr3 0; have l1 := blk_frozen hr3 1; have l2 := blk_frozen hr3 2; have q0 := (blk_cell hr3 0).trans rfl; have q1 := (blk_cell hr3 1).trans rfl; have q2 := (blk_cell hr3 2).trans rfl; clear hr3 ht3 hk3))
  have hfin : (((w3.setCell ⟨gr, 0, none⟩ (.int .i64 h)).setCell ⟨gr, 1, none⟩ (.string id)).setCell ⟨gr, 2, none⟩ (.string rt)).heap[gr]? = some (.cells #[.int .i64 h, .string id, .string rt] 58 (0, 0)) := by
    rw [blk_set (blk_set (blk_set HR3.out 0 _) 1 _) 2 _]
    rfl
  have hk4 : Kp (fun i => i = gr) w3 (((w3.setCell ⟨gr, 0, none⟩ (.int .i64 h)).setCell ⟨gr, 1, none⟩ (.string id)).setCell ⟨gr, 2, none⟩ (.string rt)) := (((Kp.refl (fun i => i = gr) w3).setCell (p := ⟨gr, 0, none⟩) (.inl rfl) _).setCell (p := ⟨gr, 1, none⟩) (.inl rfl) _).setCell (p := ⟨gr, 2, none⟩) (.inl rfl) _
  generalize ((w3.setCell ⟨gr, 0, none⟩ (.int .i64 h)).setCell ⟨gr, 1, none⟩ (.string id)).setCell ⟨gr, 2, none⟩ (.string rt) = w4 at *
  have hS4 : SS w4 gs gt s h n := ⟨(hk4.block gs (blk_lt HK3.out.1) (fun e => HNS.out e.symm)).trans HK3.out.1, HK3.out.2.1.but hk4 (fun e => HNT.out e.symm) (fun i hi => ⟨_, _, _, (congrArg (fun j => w3.heap[j]?) hi).trans HR3.out, by decide, by decide⟩), HK3.out.2.2⟩
  exact bodyPost_ret (v := .agg #[.int .i64 h, .string id, .string rt]) (results_cell_row Try.results61 _ _ gr 58 _ (0, 0) _ rfl hfin Try.underlying58 rfl (by rw [size_key]; rfl)) rfl ⟨rfl, hS4, (HB.out.trans HKP3.out).then_ hk4 (fun i hi => .inr (by rw [hi, HGR.out]; exact Nat.le_refl _))⟩
end Go.Proofs.Ytilehfdplgciiaa.Hand
/-! The signer's Skip and Fork, walked. -/
namespace Go.Proofs.Ytilehfdplgciiaa.Hand
open Go.RowKit Go.Proofs.YtilehfdplgciiaaW.PrintWords Go.Proofs.Ytilehfdplgciiaa.PLM Go.Proofs.Ytilehfdplgciiaa.Plain Go.Proofs.YtilehfdplgciiaaW.PrintMore
set_option linter.unusedVariables false
attribute [local go_sem ↓] Go.wp_at_zero Go.wp_at_succ
attribute [local go_sem] max2_int min2_int max_two min_two

theorem skip_neg (w : World) (gs gt : Nat) (s : ByteArray) (h n : Nat) (k : Int) (t : SS w gs gt s h n) (hk : k < 0) :
    Calls Try.prog 62 #[.pointer (some ⟨gs, 0, none⟩), .int .i64 k] w fun e w' => e = .returned (.int .i64 0) ∧ w = w' := by
  have hn := t.alive
  clear t
  go_enter Try.func62, Try.ntmps62
  go_wp2_with (go_at_call 78; refine hn.mono ?_; rintro e w2 ⟨rfl, rfl⟩)
  go_ret
  exact ⟨rfl, rfl⟩
theorem skip_any (w : World) (gs gt : Nat) (s : ByteArray) (h n k : Nat) (t : SS w gs gt s h n) (hN : n ≤ 2 ^ h) :
    Calls Try.prog 62 #[.pointer (some ⟨gs, 0, none⟩), .int .i64 k] w fun e w' => e = .returned (.int .i64 ((min k (2 ^ h - n) : Nat) : Int)) ∧ SS w' gs gt s h (n + min k (2 ^ h - n)) ∧ Kp (fun i => i = gs) w w' := by
  have hn := t.alive
  have hl := left_any w gs gt s h n t hN
  have hp := pow_le8 t.2.2.2
  have hmin : min (k : Int) ((2 ^ h - n : Nat) : Int) = ((min k (2 ^ h - n) : Nat) : Int) := by omega
  have hs1 : wrap64 ((n : Int) + ((min k (2 ^ h - n) : Nat) : Int)) = ((n + min k (2 ^ h - n) : Nat) : Int) := by unfold wrap64; omega
  have hq : (0 : Int) ≤ (k : Int) := by omega
  have HT := Lib.hid t
  have HS1 := Lib.hid hs1
  generalize min k (2 ^ h - n) = r at *
  generalize ((2 ^ h - n : Nat) : Int) = L at *
  clear t hs1 hN hp
  by_cases q : L < (k : Int)
  · obtain rfl : L = (r : Int) := by omega
    clear hmin
    go_enter Try.func62, Try.ntmps62
    go_wp2_with (first | (go_at_call 78; refine hn.mono ?_; rintro e w2 ⟨rfl, rfl⟩) | (go_at_call 59; refine hl.mono ?_; rintro e w2 ⟨rfl, hb2⟩; have hT2 := HT.out.below hb2; have HT2 := Lib.hid hT2; have d2 := hT2.1.c2; have e2 := hT2.1.f2; have HB2 := Lib.hid hb2; clear hT2 hb2))
    go_ret
    exact ⟨rfl, by rw [HS1.out]; exact HT2.out.set (n + r), (Kp.of_below (fun i => i = gs) HB2.out).setCell (p := ⟨gs, 2, none⟩) (.inl rfl) _⟩
  · obtain rfl : k = r := by omega
    clear hmin
    go_enter Try.func62, Try.ntmps62
    go_wp2_with (first | (go_at_call 78; refine hn.mono ?_; rintro e w2 ⟨rfl, rfl⟩) | (go_at_call 59; refine hl.mono ?_; rintro e w2 ⟨rfl, hb2⟩; have hT2 := HT.out.below hb2; have HT2 := Lib.hid hT2; have d2 := hT2.1.c2; have e2 := hT2.1.f2; have HB2 := Lib.hid hb2; clear hT2 hb2))
    go_ret
    exact ⟨rfl, by rw [HS1.out]; exact HT2.out.set (n + k), (Kp.of_below (fun i => i = gs) HB2.out).setCell (p := ⟨gs, 2, none⟩) (.inl rfl) _⟩
theorem fork_any (w : World) (gs gt : Nat) (s : ByteArray) (h n : Nat) (t : SS w gs gt s h n) :
    Calls Try.prog 63 #[.pointer (some ⟨gs, 0, none⟩)] w fun e w' => ∃ g2 : Nat, e = .returned (.pointer (some ⟨g2, 0, none⟩)) ∧ SS w' g2 gt s h n ∧ w.heap.size ≤ g2 ∧ Below w.heap.size w w' := by
  have hn := t.alive
  have c0 := t.1.c0
  have c1 := t.1.c1
  have c2 := t.1.c2
  have c3 := t.1.c3
  have HT := Lib.hid t
  clear t
  go_enter Try.func63, Try.ntmps63
  go_wp2_with (go_at_call 78; refine hn.mono ?_; rintro e w2 ⟨rfl, rfl⟩)
  go_ret
  exact ⟨w.heap.size, rfl, ⟨heap_alloc_new w _, HT.out.2.1.below (below_alloc (Below.refl _ _) _), HT.out.2.2⟩, Nat.le_refl _, below_alloc (Below.refl _ _) _⟩
end Go.Proofs.Ytilehfdplgciiaa.Hand
