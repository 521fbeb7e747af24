import Derived.Test.YtilehfdplgciiaaSg1
/-! The signer's Sign and Key, walked. -/
namespace Go.Proofs.Ytilehfdplgciiaa.Hand
open Go.RowKit Go.Proofs.YtilehfdplgciiaaW.PrintWords Go.Proofs.Ytilehfdplgciiaa.PLM Go.Proofs.Ytilehfdplgciiaa.Plain
set_option linter.unusedVariables false
attribute [local go_sem ↓] Go.wp_at_zero Go.wp_at_succ

theorem SS.set {W : World} {gs gt : Nat} {s : ByteArray} {h n : Nat} (k : SS W gs gt s h n) (n2 : Nat) : SS (W.setCell ⟨gs, 2, none⟩ (.int .i64 n2)) gs gt s h n2 := by
  refine ⟨?_, ?_, k.2.2⟩
  · have := blk_set k.1 2 (.int .i64 n2)
    exact this
  · exact k.2.1.but (S := fun i => i = gs) ((Kp.refl (fun i => i = gs) W).setCell (p := ⟨gs, 2, none⟩) (.inl rfl) _) (fun e => k.ne e.symm) (fun i hi => ⟨_, _, _, (congrArg (fun j => W.heap[j]?) hi).trans k.1, by decide, by decide⟩)
theorem sgn_out (w : World) (gs gt : Nat) (s : ByteArray) (h : Nat) (m : ByteArray) (k : SS w gs gt s h (2 ^ h)) :
    Calls Try.prog 60 #[.pointer (some ⟨gs, 0, none⟩), .string m] w fun e w' => e = .returned (.tuple #[.string ⟨#[]⟩, .int .i64 19]) ∧ Below w.heap.size w w' := by
  have hn := k.alive
  have hl := left_any w gs gt s h (2 ^ h) k (Nat.le_refl _)
  rw [Nat.sub_self] at hl
  clear k
  go_enter Try.func60, Try.ntmps60
  go_wp2_with (first | (go_at_call 78; refine hn.mono ?_; rintro e w2 ⟨rfl, rfl⟩) | (go_at_call 59; refine hl.mono ?_; rintro e w2 ⟨rfl, hb2⟩))
  go_ret2
  exact ⟨rfl, hb2⟩
set_option maxHeartbeats 1000000 in
theorem sgn_in (w : World) (gs gt : Nat) (s : ByteArray) (h n : Nat) (m : ByteArray) (k : SS w gs gt s h n) (hN : n < 2 ^ h) (hm : m.size ≤ 1000) :
    Calls Try.prog 60 #[.pointer (some ⟨gs, 0, none⟩), .string m] w fun e w' => e = .returned (.tuple #[.string (sigR s h n m), .int .i64 0]) ∧ SS w' gs gt s h (n + 1) ∧ Kp (fun i => i = gs ∨ i = gt) w w' := by
  have hn := k.alive
  have hl := left_any w gs gt s h n k (Nat.le_of_lt hN)
  have hp := pow_le8 k.2.2.2
  have hsg : ∀ W : World, SS W gs gt s h n → Calls Try.prog 47 #[.pointer (some ⟨gt, 0, none⟩), .int .i64 n, .string m] W fun e w' => e = .returned (.tuple #[.string (sigR s h n m), .int .i64 0]) ∧ (∃ v, TG w' gt s h v) ∧ Kp (fun k => k = gt) W w' := fun W k => sign_in W gt s h n m k.2.1 k.2.2.1 k.2.2.2 hN hm
  have hne : (((2 ^ h - n : Nat) : Int) == 0) = false := by simp; omega
  have hs1 : wrap64 ((n : Int) + 1) = ((n + 1 : Nat) : Int) := by unfold wrap64; omega
  have HK := Lib.hid k
  have HSG := Lib.hid hsg
  have HS1 := Lib.hid hs1
  generalize ((2 ^ h - n : Nat) : Int) = L at *
  generalize sigR s h n m = sg at *
  clear k hsg hs1 hN hm hp
  go_enter Try.func60, Try.ntmps60
  go_upto_region 5 with (first | (go_at_call 78; refine hn.mono ?_; rintro e w2 ⟨rfl, rfl⟩) | (go_at_call 59; refine hl.mono ?_; rintro e w2 ⟨rfl, hb2⟩))
  clear hn hl
  have k2 := HK.out.below hb2
  have HK2 := Lib.hid k2
  have HB2 := Lib.hid hb2
  have c2 := k2.1.c2
  have c3 := k2.1.c3
  clear k2 hb2
  go_region_held3 (fun w' => w'.cell? ⟨gs, 2, none⟩ = some (.int .i64 n) ∧ w'.cell? ⟨gs, 3, none⟩ = some (.pointer (some ⟨gt, 0, none⟩))) (go_keep) ((go_at_call 47; refine (HSG.out _ (HK2.out.below (below_drew (Below.refl _ _)))).mono ?_; rintro e w3 ⟨rfl, ⟨v3, ht3⟩, hk3⟩; have k3 := (HK2.out.below (below_drew (Below.refl _ _))).keep_t hk3 ht3.ts; have HT3 := Lib.hid ht3; have HKP3 := Lib.hid hk3; have HK3 := Lib.hid k3; have d2 := k3.1.c2; have d3 := k3.1.c3; have e2 := k3.1.f2; clear ht3 hk3 k3))
  go_wp2
  go_ret2
  rw [HS1.out]
  refine ⟨rfl, HK3.out.set (n + 1), ?_⟩
  have q1 : Kp (fun i => i = gs ∨ i = gt) w w3 := (((Kp.of_below _ HB2.out).drew).then_ HKP3.out (fun i hi => .inl (.inr hi)))
  exact q1.setCell (p := ⟨gs, 2, none⟩) (.inl (.inl rfl)) _
set_option maxHeartbeats 1000000 in
theorem skey_any (w : World) (gs gt : Nat) (s : ByteArray) (h n : Nat) (k : SS w gs gt s h n) :
    Calls Try.prog 61 #[.pointer (some ⟨gs, 0, none⟩)] w fun e w' => e = .returned (.agg #[.int .i64 h, .string (nameOf s), .string (root s h)]) ∧ SS w' gs gt s h n ∧ Kp (fun i => i = gt) w w' := by
  have hn := fun o : Obj => (k.below (below_alloc (Below.refl _ _) o)).alive
  have hr := heap_alloc_new w (.cells #[.int .i64 0, .string ⟨#[]⟩, .string ⟨#[]⟩] 58)
  have k1 := k.below (below_alloc (Below.refl _ _) (.cells #[.int .i64 0, .string ⟨#[]⟩, .string ⟨#[]⟩] 58))
  have hky : ∀ W : World, SS W gs gt s h n → Calls Try.prog 42 #[.pointer (some ⟨gt, 0, none⟩)] W fun e w' => e = .returned (.agg #[.int .i64 h, .string (nameOf s), .string (root s h)]) ∧ (∃ v, TG w' gt s h v) ∧ Kp (fun k => k = gt) W w' := fun W k => key_lit W gt s h k.2.1 k.2.2.1 k.2.2.2
  have hlt := k.lt
  have hlt2 := k.2.1.lt
  have HKY := Lib.hid hky
  have HK1 := Lib.hid k1
  have HR := Lib.hid hr
  have c3 := k1.1.c3
  have hb1 := (Kp.refl (fun i => i = gt) w).alloc (.cells #[.int .i64 0, .string ⟨#[]⟩, .string ⟨#[]⟩] 58)
  have HB := Lib.hid hb1
  clear k hky k1 hr hb1
  generalize nameOf s = id at *
  generalize root s h = rt at *
  go_enter Try.func61, Try.ntmps61
  go_upto_region 1 with fail
  have hn1 := hn (.cells #[.int .i64 0, .string ⟨#[]⟩, .string ⟨#[]⟩] 58)
  clear hn
  generalize w.alloc (.cells #[.int .i64 0, .string ⟨#[]⟩, .string ⟨#[]⟩] 58) = w1 at *
  obtain ⟨gr, hgr⟩ : ∃ gr, gr = w.heap.size := ⟨_, rfl⟩
  rw [← hgr] at HR hlt hlt2 ⊢
  have HGR := Lib.hid hgr
  clear hgr
  have hnt : gr ≠ gt := by omega
  have hns : gr ≠ gs := by omega
  have HNT := Lib.hid hnt
  have HNS := Lib.hid hns
  clear hnt hns hlt hlt2
  go_wp2_with (first | (go_at_call 78; refine hn1.mono ?_; rintro e w2 ⟨rfl, rfl⟩) | (go_at_call 42; refine (HKY.out _ HK1.out).mono ?_; rintro e w3 ⟨rfl, ⟨v3, ht3⟩, hk3⟩; have hr3 := (hk3.block gr (blk_lt HR.out) HNT.out).trans HR.out; have HR3 := Lib.hid hr3; have HK3 := Lib.hid (HK1.out.keep_t hk3 ht3.ts); have HKP3 := Lib.hid hk3; have l0 := blk_frozen hr3 0; have l1 := blk_frozen hr3 1; have l2 := blk_frozen hr3 2; have q0 := (blk_cell hr3 0).trans rfl; have q1 := (blk_cell hr3 1).trans rfl; have q2 := (blk_cell hr3 2).trans rfl; clear hr3 ht3 hk3))
  have hfin : (((w3.setCell ⟨gr, 0, none⟩ (.int .i64 h)).setCell ⟨gr, 1, none⟩ (.string id)).setCell ⟨gr, 2, none⟩ (.string rt)).heap[gr]? = some (.cells #[.int .i64 h, .string id, .string rt] 58 (0, 0)) := by
    rw [blk_set (blk_set (blk_set HR3.out 0 _) 1 _) 2 _]
    rfl
  have hk4 : Kp (fun i => i = gr) w3 (((w3.setCell ⟨gr, 0, none⟩ (.int .i64 h)).setCell ⟨gr, 1, none⟩ (.string id)).setCell ⟨gr, 2, none⟩ (.string rt)) := (((Kp.refl (fun i => i = gr) w3).setCell (p := ⟨gr, 0, none⟩) (.inl rfl) _).setCell (p := ⟨gr, 1, none⟩) (.inl rfl) _).setCell (p := ⟨gr, 2, none⟩) (.inl rfl) _
  generalize ((w3.setCell ⟨gr, 0, none⟩ (.int .i64 h)).setCell ⟨gr, 1, none⟩ (.string id)).setCell ⟨gr, 2, none⟩ (.string rt) = w4 at *
  have hS4 : SS w4 gs gt s h n := ⟨(hk4.block gs (blk_lt HK3.out.1) (fun e => HNS.out e.symm)).trans HK3.out.1, HK3.out.2.1.but hk4 (fun e => HNT.out e.symm) (fun i hi => ⟨_, _, _, (congrArg (fun j => w3.heap[j]?) hi).trans HR3.out, by decide, by decide⟩), HK3.out.2.2⟩
  exact bodyPost_ret (v := .agg #[.int .i64 h, .string id, .string rt]) (results_cell_row Try.results61 _ _ gr 58 _ (0, 0) _ rfl hfin Try.underlying58 rfl (by rw [size_key]; rfl)) rfl ⟨rfl, hS4, (HB.out.trans HKP3.out).then_ hk4 (fun i hi => .inr (by rw [hi, HGR.out]; exact Nat.le_refl _))⟩
end Go.Proofs.Ytilehfdplgciiaa.Hand
