import Derived.Test.YtilehfdplgciiaaTree
import Derived.Test.YtilehfdplgciiaaWEqStruct
import Derived.Test.YtilehfdplgciiaaKeyEq
/-! The signer in memory; its small methods. -/
namespace Go.Proofs.Ytilehfdplgciiaa.Hand
open Go.RowKit Go.Proofs.YtilehfdplgciiaaW.PrintWords Go.Proofs.Ytilehfdplgciiaa.PLM Go.Proofs.Ytilehfdplgciiaa.Plain
set_option linter.unusedVariables false
attribute [local go_sem ↓] Go.wp_at_zero Go.wp_at_succ

theorem guard_state : Try.prog.eqGuardType Try.prog.depth 89 = false := by kernel_rfl
theorem held_state : Try.prog.stoodInHeld 89 = false := by kernel_rfl
theorem state_eq (a a2 b b2 : Int) (s s2 : ByteArray) (w : World) : (Op.equalIn 10000 89 (.agg #[.string s, .int .i64 a, .int .i64 a2]) (.agg #[.string s2, .int .i64 b, .int .i64 b2])).run Try.prog w = .ok ((s.toList == s2.toList) && ((a == b) && (a2 == b2))) w := by
  refine eqA_of (d := 9999) Try.underlying89 held_state ?_
  refine eqf_cons rfl (part_key _ _ _ _ agg_str rfl w) (part_key _ _ _ _ agg_str rfl w) (run_equalIn_string w 9998 9 s s2 Try.underlying9) ?_
  refine eqf_cons rfl (part_key _ _ _ _ agg_int rfl w) (part_key _ _ _ _ agg_int rfl w) (run_equalIn_int w 9998 3 .i64 .i64 a b Try.underlying3) ?_
  exact eqf_last rfl (part_key _ _ _ _ agg_int rfl w) (part_key _ _ _ _ agg_int rfl w) (run_equalIn_int w 9998 3 .i64 .i64 a2 b2 Try.underlying3)
theorem toList_none : (⟨#[]⟩ : ByteArray).toList = [] := by rw [ByteArray.toList_eq]
/-- The signer's block. -/
def Sg (W : World) (g : Nat) (s : ByteArray) (h n : Int) (t : Value) : Prop := W.heap[g]? = some (.cells #[.string s, .int .i64 h, .int .i64 n, t] 91 (0, 0))
theorem Sg.c0 {W : World} {g : Nat} {s : ByteArray} {h n : Int} {t : Value} (k : Sg W g s h n t) : W.cell? ⟨g, 0, none⟩ = some (.string s) := (blk_cell k 0).trans rfl
theorem Sg.c1 {W : World} {g : Nat} {s : ByteArray} {h n : Int} {t : Value} (k : Sg W g s h n t) : W.cell? ⟨g, 1, none⟩ = some (.int .i64 h) := (blk_cell k 1).trans rfl
theorem Sg.c2 {W : World} {g : Nat} {s : ByteArray} {h n : Int} {t : Value} (k : Sg W g s h n t) : W.cell? ⟨g, 2, none⟩ = some (.int .i64 n) := (blk_cell k 2).trans rfl
theorem Sg.c3 {W : World} {g : Nat} {s : ByteArray} {h n : Int} {t : Value} (k : Sg W g s h n t) : W.cell? ⟨g, 3, none⟩ = some t := (blk_cell k 3).trans rfl
theorem Sg.f2 {W : World} {g : Nat} {s : ByteArray} {h n : Int} {t : Value} (k : Sg W g s h n t) : W.frozen? ⟨g, 2, none⟩ = false := blk_frozen k 2
theorem none_nil (w : World) :
    Calls Try.prog 78 #[.pointer none] w fun e w' => e = .returned (.bool true) ∧ w = w' := by
  go_enter Try.func78, Try.ntmps78
  go_wp2
  go_ret
  exact ⟨rfl, rfl⟩
theorem none_any (w : World) (g : Nat) (s : ByteArray) (h n : Int) (t : Value) (k : Sg w g s h n t) (hs : 0 < s.size) :
    Calls Try.prog 78 #[.pointer (some ⟨g, 0, none⟩)] w fun e w' => e = .returned (.bool false) ∧ w = w' := by
  have c0 := k.c0
  have c1 := k.c1
  have c2 := k.c2
  have ge := guard_state
  have he : ∀ W : World, (Op.equalIn 10000 89 (.agg #[.string s, .int .i64 h, .int .i64 n]) (.agg #[.string ⟨#[]⟩, .int .i64 0, .int .i64 0])).run Try.prog W = .ok false W := fun W => by
    rw [state_eq]
    have : (s.toList == (⟨#[]⟩ : ByteArray).toList) = false := by
      have := (ne_empty hs).1
      cases hq : s.toList with
      | nil => rw [hq] at this; simp at this
      | cons a b => rw [toList_none]; rfl
    rw [this]
    rfl
  clear k hs
  go_enter Try.func78, Try.ntmps78
  go_wp2
  go_ret
  exact ⟨rfl, rfl⟩
theorem none_zero (w : World) (g : Nat) (t : Value) (k : Sg w g ⟨#[]⟩ 0 0 t) :
    Calls Try.prog 78 #[.pointer (some ⟨g, 0, none⟩)] w fun e w' => e = .returned (.bool true) ∧ w = w' := by
  have c0 := k.c0
  have c1 := k.c1
  have c2 := k.c2
  have ge := guard_state
  have he : ∀ W : World, (Op.equalIn 10000 89 (.agg #[.string ⟨#[]⟩, .int .i64 0, .int .i64 0]) (.agg #[.string ⟨#[]⟩, .int .i64 0, .int .i64 0])).run Try.prog W = .ok true W := fun W => by
    rw [state_eq]
    simp
  clear k
  go_enter Try.func78, Try.ntmps78
  go_wp2
  go_ret
  exact ⟨rfl, rfl⟩
/-- A signer with its tree. -/
def SS (W : World) (gs gt : Nat) (s : ByteArray) (h n : Nat) : Prop := Sg W gs s h n (.pointer (some ⟨gt, 0, none⟩)) ∧ TS W gt s h ∧ s.size = 32 ∧ h ≤ 8
theorem SS.lt {W : World} {gs gt : Nat} {s : ByteArray} {h n : Nat} (k : SS W gs gt s h n) : gs < W.heap.size := blk_lt k.1
theorem SS.below {W W2 : World} {gs gt : Nat} {s : ByteArray} {h n : Nat} (k : SS W gs gt s h n) (hb : Below W.heap.size W W2) : SS W2 gs gt s h n := ⟨(hb.block _ (blk_lt k.1)).trans k.1, k.2.1.below hb, k.2.2⟩
theorem SS.alive {W : World} {gs gt : Nat} {s : ByteArray} {h n : Nat} (k : SS W gs gt s h n) : Calls Try.prog 78 #[.pointer (some ⟨gs, 0, none⟩)] W fun e w' => e = .returned (.bool false) ∧ W = w' := none_any W gs s h n _ k.1 (by have := k.2.2.1; omega)
/-- A tree's block is no signer's. -/
theorem SS.ne {W : World} {gs gt : Nat} {s : ByteArray} {h n : Nat} (k : SS W gs gt s h n) : gs ≠ gt := by
  obtain ⟨v, hT, _⟩ := k.2.1
  have h1 := k.1
  intro e
  subst e
  unfold Tr at hT
  unfold Sg at h1
  rw [h1] at hT
  injection hT with hT
  injection hT with _ hT
  exact absurd hT (by decide)
/-- The tree stands behind a store into another type's block. -/
theorem TS.but {W W2 : World} {gt : Nat} {s : ByteArray} {h : Nat} (t : TS W gt s h) {S : Nat → Prop} (hk : Kp S W W2) (hn : ¬ S gt) (hS : ∀ i, S i → ∃ cs ty fr, W.heap[i]? = some (.cells cs ty fr) ∧ ty ≠ 9 ∧ ty ≠ 26) : TS W2 gt s h := by
  obtain ⟨v, hT, hv⟩ := t
  refine ⟨v, (hk.block gt (blk_lt hT) hn).trans hT, hv.imp id fun hv => ?_⟩
  obtain ⟨b, c, rs, e, hb, hh, hr⟩ := hv
  have nb : ∀ (j : Nat) (xs : Array Value) (ty : TypeId), W.heap[j]? = some (.cells xs ty (0, 0)) → (ty = 9 ∨ ty = 26) → ¬ S j := by
    intro j xs ty hj hty hSj
    obtain ⟨cs, ty2, fr, h1, h2, h3⟩ := hS j hSj
    rw [hj] at h1
    injection h1 with h1
    injection h1 with _ h1
    rcases hty with rfl | rfl
    · exact h2 h1.symm
    · exact h3 h1.symm
  refine ⟨b, c, rs, e, hb, (hk.block b (blk_lt hh) (nb b _ _ hh (.inr rfl))).trans hh, fun i hi => ?_⟩
  obtain ⟨u, hu, b2, c2, rs2, e2, hb2, hh2, hr2⟩ := hr i hi
  exact ⟨u, hu, b2, c2, rs2, e2, hb2, (hk.block b2 (blk_lt hh2) (nb b2 _ _ hh2 (.inl rfl))).trans hh2, hr2⟩
theorem SS.keep_t {W W2 : World} {gs gt : Nat} {s : ByteArray} {h n : Nat} (k : SS W gs gt s h n) (hk : Kp (fun i => i = gt) W W2) (t : TS W2 gt s h) : SS W2 gs gt s h n := ⟨(hk.block gs (blk_lt k.1) k.ne).trans k.1, t, k.2.2⟩
theorem at_size (w : World) (s : ByteArray) (h n : Int) (hs : s.size ≠ 32) :
    Calls Try.prog 57 #[.string s, .int .i64 h, .int .i64 n] w fun e w' => e = .returned (.tuple #[.pointer none, .int .i64 18]) ∧ w = w' := by
  go_enter Try.func57, Try.ntmps57
  go_wp2_with (go_at_call 40; refine (gen_size _ s h hs).mono ?_; rintro e w2 ⟨rfl, rfl⟩)
  go_ret2
  exact ⟨rfl, rfl⟩
theorem at_height (w : World) (s : ByteArray) (h n : Int) (hs : s.size = 32) (hh : h < 0 ∨ 8 < h) :
    Calls Try.prog 57 #[.string s, .int .i64 h, .int .i64 n] w fun e w' => e = .returned (.tuple #[.pointer none, .int .i64 1]) ∧ w = w' := by
  have HH := Lib.hid hh
  clear hh
  go_enter Try.func57, Try.ntmps57
  go_wp2_with (go_at_call 40; refine (gen_height _ s h hs HH.out).mono ?_; rintro e w2 ⟨rfl, rfl⟩)
  go_ret2
  exact ⟨rfl, rfl⟩
theorem at_range (w : World) (s : ByteArray) (h : Nat) (n : Int) (hs : s.size = 32) (h8 : h ≤ 8) (hn : n < 0 ∨ ((2 ^ h : Nat) : Int) < n) :
    Calls Try.prog 57 #[.string s, .int .i64 h, .int .i64 n] w fun e w' => e = .returned (.tuple #[.pointer none, .int .i64 1]) ∧ Below w.heap.size w w' := by
  have HS := Lib.hid hs
  have H8 := Lib.hid h8
  have hgen : ∀ W : World, _ := fun W => gen_any W s h HS.out H8.out
  have hlv : ∀ (W : World) (g : Nat), TS W g s h → Calls Try.prog 45 #[.pointer (some ⟨g, 0, none⟩)] W fun e w' => e = .returned (.int .i64 ((2 ^ h : Nat) : Int)) ∧ W = w' := fun W g t => t.leaves HS.out H8.out
  generalize ((2 ^ h : Nat) : Int) = N at *
  have HLV := Lib.hid hlv
  clear hs h8 hlv
  by_cases h0 : n < 0
  · clear hn
    go_enter Try.func57, Try.ntmps57
    go_wp2_with (go_at_call 40; refine (hgen _).mono ?_; rintro e w2 ⟨g, rfl, ht, hg, hb⟩)
    go_ret2
    exact ⟨rfl, hb⟩
  · have h1 : N < n := by omega
    clear hn
    go_enter Try.func57, Try.ntmps57
    go_wp2_with (first | (go_at_call 40; refine (hgen _).mono ?_; rintro e w2 ⟨g, rfl, ht, hg, hb⟩; have HT := Lib.hid ht; clear ht) | (go_at_call 45; refine (HLV.out _ g HT.out).mono ?_; rintro e w3 ⟨rfl, rfl⟩))
    go_ret2
    exact ⟨rfl, hb⟩
theorem at_any (w : World) (s : ByteArray) (h n : Nat) (hs : s.size = 32) (h8 : h ≤ 8) (hn : n ≤ 2 ^ h) :
    Calls Try.prog 57 #[.string s, .int .i64 h, .int .i64 n] w fun e w' => ∃ gs gt : Nat, e = .returned (.tuple #[.pointer (some ⟨gs, 0, none⟩), .int .i64 0]) ∧ SS w' gs gt s h n ∧ w.heap.size ≤ gs ∧ w.heap.size ≤ gt ∧ Below w.heap.size w w' := by
  have HS := Lib.hid hs
  have H8 := Lib.hid h8
  have hgen : ∀ W : World, _ := fun W => gen_any W s h HS.out H8.out
  have hlv : ∀ (W : World) (g : Nat), TS W g s h → Calls Try.prog 45 #[.pointer (some ⟨g, 0, none⟩)] W fun e w' => e = .returned (.int .i64 ((2 ^ h : Nat) : Int)) ∧ W = w' := fun W g t => t.leaves HS.out H8.out
  have h1 : (n : Int) ≤ ((2 ^ h : Nat) : Int) := by omega
  clear hn
  generalize ((2 ^ h : Nat) : Int) = N at *
  have HLV := Lib.hid hlv
  clear hs h8 hlv
  go_enter Try.func57, Try.ntmps57
  go_wp2_with (first | (go_at_call 40; refine (hgen _).mono ?_; rintro e w2 ⟨g, rfl, ht, hg, hb⟩; have HT := Lib.hid ht; clear ht) | (go_at_call 45; refine (HLV.out _ g HT.out).mono ?_; rintro e w3 ⟨rfl, rfl⟩))
  go_ret2
  exact ⟨w2.heap.size, g, rfl, ⟨heap_alloc_new w2 _, HT.out.below (below_alloc (Below.refl _ _) _), HS.out, H8.out⟩, hb.size, hg, below_alloc hb _⟩
end Go.Proofs.Ytilehfdplgciiaa.Hand
