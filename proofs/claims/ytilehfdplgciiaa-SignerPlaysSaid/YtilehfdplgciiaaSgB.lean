import Derived.Test.YtilehfdplgciiaaSgA
import Derived.Test.YtilehfdplgciiaaVer
/-! The signer's Save, walked. -/
namespace Go.Proofs.Ytilehfdplgciiaa.Hand
open Go.RowKit Go.Proofs.YtilehfdplgciiaaW.PrintWords Go.Proofs.Ytilehfdplgciiaa.PLM Go.Proofs.Ytilehfdplgciiaa.Plain Go.Proofs.YtilehfdplgciiaaW.PrintMore Go.Proofs.YtilehfdplgciiaaW Go.Proofs.YtilehfdplgciiaaW Go.Proofs.YtilehfdplgciiaaW Go.Proofs.YtilehfdplgciiaaW
set_option linter.unusedVariables false
set_option linter.unusedSimpArgs false
attribute [local go_sem ↓] Go.wp_at_zero Go.wp_at_succ

/-- What a signer saves. -/
def saveS (s : ByteArray) (h n : Nat) : ByteArray := (⟨#[75, 69, 89, 49]⟩ : ByteArray) ++ s ++ strOfNums [(h : Int), IntKind.u8.wrap ((n : Int) / 16777216), IntKind.u8.wrap ((n : Int) / 65536), IntKind.u8.wrap ((n : Int) / 256), IntKind.u8.wrap (n : Int)]
set_option maxHeartbeats 1000000 in
set_option maxRecDepth 100000 in
theorem save_any (w : World) (gs gt : Nat) (s : ByteArray) (h n : Nat) (t : SS w gs gt s h n) (hN : n ≤ 256) :
    Calls Try.prog 39 #[.pointer (some ⟨gs, 0, none⟩)] w fun e w' => e = .returned (.string (saveS s h n)) ∧ Below w.heap.size w w' := by
  have hn := t.alive
  have c0 := t.1.c0
  have c1 := t.1.c1
  have c2 := t.1.c2
  have h8 := t.2.2.2
  have w1 : IntKind.u8.wrap (h : Int) = (h : Int) := by unfold IntKind.wrap; simp [IntKind.bits, IntKind.signed]; omega
  have hz := t.2.2.1
  have z1 : (⟨#[75, 69, 89, 49]⟩ : ByteArray).size + s.size ≤ 9223372036854775807 := by show 4 + s.size ≤ _; omega
  have z2 : 4 + s.size ≤ 9223372036854775807 := by omega
  have z3 : ((⟨#[75, 69, 89, 49]⟩ : ByteArray) ++ s).size + 5 ≤ 9223372036854775807 := by rw [ByteArray.size_append]; show 4 + s.size + 5 ≤ _; omega
  clear t
  go_enter Try.func39, Try.ntmps39
  go_upto_region 4 with (go_at_call 78; refine hn.mono ?_; rintro e w2 ⟨rfl, rfl⟩)
  clear hn c2
  obtain ⟨y, hy⟩ : ∃ y, y = strOfNums [(h : Int), IntKind.u8.wrap ((n : Int) / 16777216), IntKind.u8.wrap ((n : Int) / 65536), IntKind.u8.wrap ((n : Int) / 256), IntKind.u8.wrap ((n : Int))] := ⟨_, rfl⟩
  have HY := Lib.hid hy
  have hy5 : y.size = 5 := by rw [hy]; rfl
  have z4 : ((⟨#[75, 69, 89, 49]⟩ : ByteArray) ++ s).size + y.size ≤ 9223372036854775807 := by rw [hy5]; exact z3
  clear hy
  have hb0 := below_drew (Below.refl w.heap.size w)
  refine PrintLast.start_ (n := 27) (S := fun w' => w'.cell? ⟨gs, 0, none⟩ = some (.string s) ∧ w'.cell? ⟨gs, 1, none⟩ = some (.int .i64 h)) (ds := []) #[false, false, false, false, false, false, false, false, false, false, false, false, false, false, false, false, false, false, false, false, false, false, false, false, false, false, false] (by kernel_rfl) rfl rfl (⟨(hb0.cell (p := ⟨gs, 0, none⟩) (World.block_lt_of_cell? _ _ c0)).trans c0, (hb0.cell (p := ⟨gs, 1, none⟩) (World.block_lt_of_cell? _ _ c1)).trans c1⟩) (fun hHeld => ?_)
  have HS0 := Lib.hid hHeld
  clear hHeld
  refine PrintLast.pure_ (i := 0) (N := some 11) (v := ?_) (a' := ?_) #[true, false, false, false, false, false, false, false, false, false, false, false, false, false, false, false, false, false, false, false, false, false, false, false, false, false, false] rfl rfl (by kernel_rfl) (fun _ _ _ h => h) (Or.inl ⟨by rfl, ?_⟩) ?_ ?_
  rotate_left
  · intro w'
    go_simp
    with_reducible rfl
  rotate_left
  · simp only [Act.put, List.setIfInBounds_toArray, List.set_cons_zero, List.set_cons_succ, PrintLast.i64_w, PrintLast.i32_w]
    rfl
  refine PrintLast.pure_ (i := 1) (N := some 12) (v := ?_) (a' := ?_) #[true, true, false, false, false, false, false, false, false, false, false, false, false, false, false, false, false, false, false, false, false, false, false, false, false, false, false] rfl rfl (by kernel_rfl) (fun _ _ _ h => h) (Or.inl ⟨by rfl, ?_⟩) ?_ ?_
  rotate_left
  · intro w'
    go_simp
    with_reducible rfl
  rotate_left
  · simp only [Act.put, List.setIfInBounds_toArray, List.set_cons_zero, List.set_cons_succ, PrintLast.i64_w, PrintLast.i32_w]
    rfl
  refine PrintLast.pure_ (i := 2) (N := some 13) (v := ?_) (a' := ?_) #[true, true, true, false, false, false, false, false, false, false, false, false, false, false, false, false, false, false, false, false, false, false, false, false, false, false, false] rfl rfl (by kernel_rfl) (fun _ _ _ h => h) (Or.inl ⟨by rfl, ?_⟩) ?_ ?_
  rotate_left
  · intro w'
    go_simp
    with_reducible rfl
  rotate_left
  · simp only [Act.put, List.setIfInBounds_toArray, List.set_cons_zero, List.set_cons_succ, PrintLast.i64_w, PrintLast.i32_w]
    rfl
  refine PrintLast.pure_ (i := 3) (N := some 14) (v := ?_) (a' := ?_) #[true, true, true, true, false, false, false, false, false, false, false, false, false, false, false, false, false, false, false, false, false, false, false, false, false, false, false] rfl rfl (by kernel_rfl) (fun _ _ _ h => h) (Or.inl ⟨by rfl, ?_⟩) ?_ ?_
  rotate_left
  · intro w'
    go_simp
    with_reducible rfl
  rotate_left
  · simp only [Act.put, List.setIfInBounds_toArray, List.set_cons_zero, List.set_cons_succ, PrintLast.i64_w, PrintLast.i32_w]
    rfl
  refine PrintLast.take_ (i := 4) (N := some 15) (v := ?_) (a' := ?_) #[true, true, true, true, true, false, false, false, false, false, false, false, false, false, false, false, false, false, false, false, false, false, false, false, false, false, false] rfl rfl (by kernel_rfl) (fun _ _ _ h => h) (Or.inl ⟨by rfl, ?_⟩) HS0.out ?_ ?_
  rotate_left
  · intro w' hS
    obtain ⟨s0, s1⟩ := hS
    go_simp
    with_reducible rfl
  rotate_left
  · simp only [Act.put, List.setIfInBounds_toArray, List.set_cons_zero, List.set_cons_succ, PrintLast.i64_w, PrintLast.i32_w]
    rfl
  refine PrintLast.pure_ (i := 5) (N := some 16) (v := ?_) (a' := ?_) #[true, true, true, true, true, true, false, false, false, false, false, false, false, false, false, false, false, false, false, false, false, false, false, false, false, false, false] rfl rfl (by kernel_rfl) (fun _ _ _ h => h) (Or.inl ⟨by rfl, ?_⟩) ?_ ?_
  rotate_left
  · intro w'
    go_simp
    with_reducible rfl
  rotate_left
  · simp only [Act.put, List.setIfInBounds_toArray, List.set_cons_zero, List.set_cons_succ, PrintLast.i64_w, PrintLast.i32_w]
    rfl
  refine PrintLast.pure_ (i := 6) (N := some 17) (v := ?_) (a' := ?_) #[true, true, true, true, true, true, true, false, false, false, false, false, false, false, false, false, false, false, false, false, false, false, false, false, false, false, false] rfl rfl (by kernel_rfl) (fun _ _ _ h => h) (Or.inl ⟨by rfl, ?_⟩) ?_ ?_
  rotate_left
  · intro w'
    go_simp
    with_reducible rfl
  rotate_left
  · simp only [Act.put, List.setIfInBounds_toArray, List.set_cons_zero, List.set_cons_succ, PrintLast.i64_w, PrintLast.i32_w]
    rfl
  refine PrintLast.pure_ (i := 7) (N := some 18) (v := ?_) (a' := ?_) #[true, true, true, true, true, true, true, true, false, false, false, false, false, false, false, false, false, false, false, false, false, false, false, false, false, false, false] rfl rfl (by kernel_rfl) (fun _ _ _ h => h) (Or.inl ⟨by rfl, ?_⟩) ?_ ?_
  rotate_left
  · intro w'
    go_simp
    with_reducible rfl
  rotate_left
  · simp only [Act.put, List.setIfInBounds_toArray, List.set_cons_zero, List.set_cons_succ, PrintLast.i64_w, PrintLast.i32_w]
    rfl
  refine PrintLast.pure_ (i := 8) (N := some 19) (v := ?_) (a' := ?_) #[true, true, true, true, true, true, true, true, true, false, false, false, false, false, false, false, false, false, false, false, false, false, false, false, false, false, false] rfl rfl (by kernel_rfl) (fun _ _ _ h => h) (Or.inl ⟨by rfl, ?_⟩) ?_ ?_
  rotate_left
  · intro w'
    go_simp
    with_reducible rfl
  rotate_left
  · simp only [Act.put, List.setIfInBounds_toArray, List.set_cons_zero, List.set_cons_succ, PrintLast.i64_w, PrintLast.i32_w]
    rfl
  refine PrintLast.pure_ (i := 9) (N := some 20) (v := ?_) (a' := ?_) #[true, true, true, true, true, true, true, true, true, true, false, false, false, false, false, false, false, false, false, false, false, false, false, false, false, false, false] rfl rfl (by kernel_rfl) (fun _ _ _ h => h) (Or.inl ⟨by rfl, ?_⟩) ?_ ?_
  rotate_left
  · intro w'
    go_simp
    with_reducible rfl
  rotate_left
  · simp only [Act.put, List.setIfInBounds_toArray, List.set_cons_zero, List.set_cons_succ, PrintLast.i64_w, PrintLast.i32_w]
    rfl
  refine PrintLast.take_ (i := 10) (N := some 21) (v := ?_) (a' := ?_) #[true, true, true, true, true, true, true, true, true, true, true, false, false, false, false, false, false, false, false, false, false, false, false, false, false, false, false] rfl rfl (by kernel_rfl) (fun _ _ _ h => h) (Or.inl ⟨by rfl, ?_⟩) HS0.out ?_ ?_
  rotate_left
  · intro w' hS
    obtain ⟨s0, s1⟩ := hS
    go_simp
    with_reducible rfl
  rotate_left
  · simp only [Act.put, List.setIfInBounds_toArray, List.set_cons_zero, List.set_cons_succ, PrintLast.i64_w, PrintLast.i32_w]
    rfl
  refine PrintLast.pure_ (i := 11) (N := some 22) (v := ?_) (a' := ?_) #[true, true, true, true, true, true, true, true, true, true, true, true, false, false, false, false, false, false, false, false, false, false, false, false, false, false, false] rfl rfl (by kernel_rfl) (fun _ _ _ h => h) (Or.inl ⟨by rfl, ?_⟩) ?_ ?_
  rotate_left
  · intro w'
    go_simp
    with_reducible rfl
  rotate_left
  · simp only [Act.put, List.setIfInBounds_toArray, List.set_cons_zero, List.set_cons_succ, PrintLast.i64_w, PrintLast.i32_w]
    rfl
  refine PrintLast.pure_ (i := 12) (N := some 23) (v := ?_) (a' := ?_) #[true, true, true, true, true, true, true, true, true, true, true, true, true, false, false, false, false, false, false, false, false, false, false, false, false, false, false] rfl rfl (by kernel_rfl) (fun _ _ _ h => h) (Or.inl ⟨by rfl, ?_⟩) ?_ ?_
  rotate_left
  · intro w'
    go_simp
    with_reducible rfl
  rotate_left
  · simp only [Act.put, List.setIfInBounds_toArray, List.set_cons_zero, List.set_cons_succ, PrintLast.i64_w, PrintLast.i32_w]
    rfl
  refine PrintLast.pure_ (i := 13) (N := some 24) (v := ?_) (a' := ?_) #[true, true, true, true, true, true, true, true, true, true, true, true, true, true, false, false, false, false, false, false, false, false, false, false, false, false, false] rfl rfl (by kernel_rfl) (fun _ _ _ h => h) (Or.inl ⟨by rfl, ?_⟩) ?_ ?_
  rotate_left
  · intro w'
    go_simp
    with_reducible rfl
  rotate_left
  · simp only [Act.put, List.setIfInBounds_toArray, List.set_cons_zero, List.set_cons_succ, PrintLast.i64_w, PrintLast.i32_w]
    rfl
  refine PrintLast.pure_ (i := 14) (N := some 25) (v := ?_) (a' := ?_) #[true, true, true, true, true, true, true, true, true, true, true, true, true, true, true, false, false, false, false, false, false, false, false, false, false, false, false] rfl rfl (by kernel_rfl) (fun _ _ _ h => h) (Or.inl ⟨by rfl, ?_⟩) ?_ ?_
  rotate_left
  · intro w'
    go_simp
    with_reducible rfl
  rotate_left
  · simp only [Act.put, List.setIfInBounds_toArray, List.set_cons_zero, List.set_cons_succ, PrintLast.i64_w, PrintLast.i32_w]
    rfl
  refine PrintLast.pure_ (i := 15) (N := some 26) (v := ?_) (a' := ?_) #[true, true, true, true, true, true, true, true, true, true, true, true, true, true, true, true, false, false, false, false, false, false, false, false, false, false, false] rfl rfl (by kernel_rfl) (fun _ _ _ h => h) (Or.inl ⟨by rfl, ?_⟩) ?_ ?_
  rotate_left
  · intro w'
    go_simp
    with_reducible rfl
  rotate_left
  · simp only [Act.put, List.setIfInBounds_toArray, List.set_cons_zero, List.set_cons_succ, PrintLast.i64_w, PrintLast.i32_w]
    rfl
  refine PrintLast.pure_ (i := 16) (N := some 27) (v := ?_) (a' := ?_) #[true, true, true, true, true, true, true, true, true, true, true, true, true, true, true, true, true, false, false, false, false, false, false, false, false, false, false] rfl rfl (by kernel_rfl) (fun _ _ _ h => h) (Or.inl ⟨by rfl, ?_⟩) ?_ ?_
  rotate_left
  · intro w'
    go_simp
    with_reducible rfl
  rotate_left
  · simp only [Act.put, List.setIfInBounds_toArray, List.set_cons_zero, List.set_cons_succ, PrintLast.i64_w, PrintLast.i32_w]
    rfl
  refine PrintLast.pure_ (i := 17) (N := some 28) (v := ?_) (a' := ?_) #[true, true, true, true, true, true, true, true, true, true, true, true, true, true, true, true, true, true, false, false, false, false, false, false, false, false, false] rfl rfl (by kernel_rfl) (fun _ _ _ h => h) (Or.inl ⟨by rfl, ?_⟩) ?_ ?_
  rotate_left
  · intro w'
    go_simp
    with_reducible rfl
  rotate_left
  · simp only [Act.put, List.setIfInBounds_toArray, List.set_cons_zero, List.set_cons_succ, PrintLast.i64_w, PrintLast.i32_w]
    rfl
  refine PrintLast.pure_ (i := 18) (N := some 29) (v := ?_) (a' := ?_) #[true, true, true, true, true, true, true, true, true, true, true, true, true, true, true, true, true, true, true, false, false, false, false, false, false, false, false] rfl rfl (by kernel_rfl) (fun _ _ _ h => h) (Or.inl ⟨by rfl, ?_⟩) ?_ ?_
  rotate_left
  · intro w'
    go_simp
    with_reducible rfl
  rotate_left
  · simp only [Act.put, List.setIfInBounds_toArray, List.set_cons_zero, List.set_cons_succ, PrintLast.i64_w, PrintLast.i32_w]
    rfl
  refine PrintLast.pure_ (i := 19) (N := some 30) (v := ?_) (a' := ?_) #[true, true, true, true, true, true, true, true, true, true, true, true, true, true, true, true, true, true, true, true, false, false, false, false, false, false, false] rfl rfl (by kernel_rfl) (fun _ _ _ h => h) (Or.inl ⟨by rfl, ?_⟩) ?_ ?_
  rotate_left
  · intro w'
    go_simp
    with_reducible rfl
  rotate_left
  · simp only [Act.put, List.setIfInBounds_toArray, List.set_cons_zero, List.set_cons_succ, PrintLast.i64_w, PrintLast.i32_w]
    rfl
  refine PrintLast.pure_ (i := 20) (N := some 31) (v := ?_) (a' := ?_) #[true, true, true, true, true, true, true, true, true, true, true, true, true, true, true, true, true, true, true, true, true, false, false, false, false, false, false] rfl rfl (by kernel_rfl) (fun _ _ _ h => h) (Or.inl ⟨by rfl, ?_⟩) ?_ ?_
  rotate_left
  · intro w'
    go_simp
    with_reducible rfl
  rotate_left
  · simp only [Act.put, List.setIfInBounds_toArray, List.set_cons_zero, List.set_cons_succ, PrintLast.i64_w, PrintLast.i32_w]
    rfl
  refine PrintLast.pure_ (i := 21) (N := some 32) (v := ?_) (a' := ?_) #[true, true, true, true, true, true, true, true, true, true, true, true, true, true, true, true, true, true, true, true, true, true, false, false, false, false, false] rfl rfl (by kernel_rfl) (fun _ _ _ h => h) (Or.inl ⟨by rfl, ?_⟩) ?_ ?_
  rotate_left
  · intro w'
    go_simp
    with_reducible rfl
  rotate_left
  · simp only [Act.put, List.setIfInBounds_toArray, List.set_cons_zero, List.set_cons_succ, PrintLast.i64_w, PrintLast.i32_w]
    rfl
  refine PrintLast.pure_ (i := 22) (N := some 33) (v := ?_) (a' := ?_) #[true, true, true, true, true, true, true, true, true, true, true, true, true, true, true, true, true, true, true, true, true, true, true, false, false, false, false] rfl rfl (by kernel_rfl) (fun _ _ _ h => h) (Or.inl ⟨by rfl, ?_⟩) ?_ ?_
  rotate_left
  · intro w'
    go_simp
    with_reducible rfl
  rotate_left
  · simp only [Act.put, List.setIfInBounds_toArray, List.set_cons_zero, List.set_cons_succ, PrintLast.i64_w, PrintLast.i32_w]
    rfl
  refine PrintLast.one_ (i := 23) (N := some 34) #[true, true, true, true, true, true, true, true, true, true, true, true, true, true, true, true, true, true, true, true, true, true, true, true, false, false, false] rfl rfl (by kernel_rfl) (by decide) (fun K hK => ?_)
  refine Kd.R_lit_step (Kd.int .u8) _ 5 (by rfl) (N := 34) rfl (xs := [(h : Int), IntKind.u8.wrap ((n : Int) / 16777216), IntKind.u8.wrap ((n : Int) / 65536), IntKind.u8.wrap ((n : Int) / 256), IntKind.u8.wrap ((n : Int))]) (inner := [.int .u8 ((h : Int)), .int .u8 (IntKind.u8.wrap ((n : Int) / 16777216)), .int .u8 (IntKind.u8.wrap ((n : Int) / 65536)), .int .u8 (IntKind.u8.wrap ((n : Int) / 256)), .int .u8 (IntKind.u8.wrap ((n : Int)))]) (ok := fun _ => True) (okp := fun _ => True) ?hr ?hp (fun _ hk => hk) trivial (Below.refl _ _) (Nat.le_refl _) (by simp) ?_
  case hr => first | (go_simp; done) | (go_simp; rfl)
  case hp => exact Reps.one (show Kd.M (Kd.int .u8) _ _ _ ((h : Int)) [.int .u8 ((h : Int))] from rfl) (Reps.one (show Kd.M (Kd.int .u8) _ _ _ (IntKind.u8.wrap ((n : Int) / 16777216)) [.int .u8 (IntKind.u8.wrap ((n : Int) / 16777216))] from rfl) (Reps.one (show Kd.M (Kd.int .u8) _ _ _ (IntKind.u8.wrap ((n : Int) / 65536)) [.int .u8 (IntKind.u8.wrap ((n : Int) / 65536))] from rfl) (Reps.one (show Kd.M (Kd.int .u8) _ _ _ (IntKind.u8.wrap ((n : Int) / 256)) [.int .u8 (IntKind.u8.wrap ((n : Int) / 256))] from rfl) (Reps.one (show Kd.M (Kd.int .u8) _ _ _ (IntKind.u8.wrap ((n : Int))) [.int .u8 (IntKind.u8.wrap ((n : Int)))] from rfl) (Reps.none _ _)))))
  intro v34 w2 ho hb2 _ _
  have hcv := own_string (P := Try.prog) Try.underlying24 Try.underlying5 Try.underlying9 (Kd.own_of_R ho)
  have HB2 := Lib.hid hb2
  have HS2 := Lib.hid (And.intro ((hb2.cell (p := ⟨gs, 0, none⟩) (World.block_lt_of_cell? _ _ HS0.out.1)).trans HS0.out.1) ((hb2.cell (p := ⟨gs, 1, none⟩) (World.block_lt_of_cell? _ _ HS0.out.2)).trans HS0.out.2))
  clear ho hb2
  refine hK.out _ _ HS2.out (fun hHeld => ?_)
  clear hHeld hK K
  refine PrintLast.norm_ (a' := ?_) ?_ ?_
  rotate_left
  · show Act.put _ (some 34) _ = _
    simp only [Act.put, List.setIfInBounds_toArray, List.set_cons_zero, List.set_cons_succ, PrintLast.i64_w, PrintLast.i32_w]
    rfl
  refine PrintLast.one_ (i := 24) (N := some 35) #[true, true, true, true, true, true, true, true, true, true, true, true, true, true, true, true, true, true, true, true, true, true, true, true, true, false, false] rfl rfl (by kernel_rfl) (by decide) (fun K hK => ?_)
  rw [← HY.out] at hcv
  refine PrintLast.value_ (v := .string y) (w1 := w2) (by rfl) rfl ?_ ?_
  · go_simp
  refine hK.out _ _ HS2.out (fun hHeld => ?_)
  clear hHeld hK K
  refine PrintLast.norm_ (a' := ?_) ?_ ?_
  rotate_left
  · show Act.put _ (some 35) _ = _
    simp only [Act.put, List.setIfInBounds_toArray, List.set_cons_zero, List.set_cons_succ, PrintLast.i64_w, PrintLast.i32_w]
    rfl
  refine PrintLast.pure_ (i := 25) (N := some 36) (v := ?_) (a' := ?_) #[true, true, true, true, true, true, true, true, true, true, true, true, true, true, true, true, true, true, true, true, true, true, true, true, true, true, false] rfl rfl (by kernel_rfl) (fun _ _ _ h => h) (Or.inl ⟨by rfl, ?_⟩) ?_ ?_
  rotate_left
  · intro w'
    go_simp
    with_reducible rfl
  rotate_left
  · simp only [Act.put, List.setIfInBounds_toArray, List.set_cons_zero, List.set_cons_succ, PrintLast.i64_w, PrintLast.i32_w]
    rfl
  refine PrintLast.pure_ (i := 26) (N := some 2) (v := ?_) (a' := ?_) #[true, true, true, true, true, true, true, true, true, true, true, true, true, true, true, true, true, true, true, true, true, true, true, true, true, true, true] rfl rfl (by kernel_rfl) (fun _ _ _ h => h) (Or.inl ⟨by rfl, ?_⟩) ?_ ?_
  rotate_left
  · intro w'
    go_simp
    with_reducible rfl
  rotate_left
  · simp only [Act.put, List.setIfInBounds_toArray, List.set_cons_zero, List.set_cons_succ, PrintLast.i64_w, PrintLast.i32_w]
    rfl
  refine PrintLast.done_ (by kernel_rfl) ?_
  go_wp2
  go_ret
  exact ⟨by rw [HY.out]; rfl, hb0.trans (HB2.out.mono hb0.size)⟩
end Go.Proofs.Ytilehfdplgciiaa.Hand
/-! The signer's Load, walked. -/
namespace Go.Proofs.Ytilehfdplgciiaa.Hand
open Go.RowKit Go.Proofs.YtilehfdplgciiaaW.PrintWords Go.Proofs.Ytilehfdplgciiaa.PLM Go.Proofs.Ytilehfdplgciiaa.Plain Go.Proofs.YtilehfdplgciiaaW.PrintMore
set_option linter.unusedVariables false
attribute [local go_sem ↓] Go.wp_at_zero Go.wp_at_succ

set_option maxHeartbeats 1000000 in
set_option maxRecDepth 100000 in
theorem load_ok (w : World) (b s : ByteArray) (h n : Nat) (hb : b.size = 41) (hp : b.extract 0 4 = ⟨#[75, 69, 89, 49]⟩) (hs : b.extract 4 36 = s) (hh : bt b 36 = (h : Int)) (hn : lfP (b.extract 37 41) 4 = (n : Int)) (hs32 : s.size = 32) (h8 : h ≤ 8) (hN : n ≤ 2 ^ h) :
    Calls Try.prog 38 #[.string b] w fun e w' => ∃ gs gt : Nat, e = .returned (.tuple #[.pointer (some ⟨gs, 0, none⟩), .int .i64 0]) ∧ SS w' gs gt s h n ∧ w.heap.size ≤ gs ∧ w.heap.size ≤ gt ∧ Below w.heap.size w w' := by
  have hat := fun W => at_any W s h n hs32 h8 hN
  have hxz : (b.extract 37 41).size = 4 := by rw [ByteArray.size_extract]; omega
  have kb := fun W => print_bytes (P := Try.prog) 9 24 5 Try.underlying9 Try.underlying24 Try.underlying5 (b.extract 37 41) W
  have hR := bytes_reads w 5 (b.extract 37 41) (by omega)
  have hB := bytes_below (Below.refl w.heap.size w) (Nat.le_refl _) 5 (b.extract 37 41)
  have hbt2 : ∀ k : Nat, k < 4 → rd (bytesOf (b.extract 37 41)) (k : Int) = bt (b.extract 37 41) (k : Int) := fun k hk => rd_bytesOf _ _
  have HBT := Lib.hid hbt2
  have HAT := Lib.hid hat
  have HN := Lib.hid hn
  have heq1 : ((b.extract 0 4).toList == [75, 69, 89, 49]) = true := by rw [hp, ByteArray.toList_eq]; rfl
  have hbi : (b.size : Int) = 41 := by omega
  rw [hxz] at kb hR
  clear hbt2 hxz hat hN hn hp
  generalize bytesOf (b.extract 37 41) = xs at *
  go_enter Try.func38, Try.ntmps38
  go_upto_block 0 with fail
  have HR := Lib.hid hR
  have HB := Lib.hid hB
  clear hR hB kb
  generalize Lib.bytesWorld w 5 (b.extract 37 41) = w1 at *
  generalize b.extract 37 41 = c4 at *
  go_wp2
  go_loopw [5, 7, 26] (fun s5 _ s26 wr => ∃ k : Nat, k ≤ 4 ∧ s26 = .int .i64 k ∧ s5 = .int .i64 (lfP c4 k) ∧ Below w1.heap.size w1 wr) (fun _ _ s26 _ => (4 - intOf s26).toNat)
  case atStart => exact ⟨0, Nat.zero_le _, rfl, rfl, Below.refl _ _⟩
  case round =>
    obtain ⟨k, hk, rfl, rfl, hBr⟩ := hrel
    by_cases hlt4 : k < 4
    · obtain ⟨ad, ha, hc⟩ := (HR.out.below hBr).at_ (k : Int) (by omega) (by omega)
      injection ha with ha
      subst ha
      rw [add_plain, Int.toNat_natCast, HBT.out k hlt4] at hc
      have hr := lfP_range c4 k
      have hr4 : (256 : Int) ^ k ≤ 256 ^ 3 := by
        have := Nat.pow_le_pow_right (show 0 < 256 by decide) (show k ≤ 3 by omega)
        have e := Int.ofNat_le.2 this
        simpa using e
      have hb := bt_range c4 (k : Int)
      have q0 : (k : Int) < 4 := by omega
      have hx := lfP_range c4 k
      have hor := or_byte (lfP c4 k) (bt c4 (k : Int)) hx.1 (by omega) hb.1 hb.2
      have hnx : lfP c4 (k + 1) = lfP c4 k * 256 + bt c4 (k : Int) := rfl
      have HNX := Lib.hid hnx
      have hx0 := hx.1
      have hx1 : lfP c4 k < 16777216 := by omega
      have hb0 := hb.1
      have hb1 := hb.2
      clear hr hr4 hx hb hnx
      have HBr := Lib.hid hBr
      clear hBr
      generalize lfP c4 k = x at *
      generalize bt c4 (k : Int) = c at *
      go_wp2
      go_roundw
      case rel => exact ⟨k + 1, by omega, by go_num, by rw [HNX.out], HBr.out⟩
      case measure => simp [intOf]; omega
    · obtain rfl : k = 4 := by omega
      have hBw := HB.out.trans (hBr.mono HB.out.size)
      have HBw := Lib.hid hBw
      clear hBr hBw
      obtain ⟨x, hx⟩ : ∃ x, x = lfP c4 4 := ⟨_, rfl⟩
      rw [← hx]
      obtain rfl : x = (n : Int) := by rw [hx, HN.out]
      clear hx
      have hwh : IntKind.i64.wrap (h : Int) = (h : Int) := IntWalk.i64_in _ (by omega)
      have l36 : 36 < b.size := by omega
      have hbx : ((b[36]'l36).toNat : Int) = (h : Int) := (bt_at b 36 l36).trans hh
      clear hh heq1
      go_upto_region 10 with fail
      go_region_held3 (fun w' => True) (first | trivial | go_keep) ((go_at_call 57; refine (HAT.out _).mono ?_; rintro e w5 ⟨gs, gt, rfl, hS5, hg5, ht5, hb5⟩; have HS5 := Lib.hid hS5; have HG5 := Lib.hid hg5; have HT5 := Lib.hid ht5; have HB5 := Lib.hid hb5; clear hS5 hg5 ht5 hb5))
      go_wp2
      go_ret2
      have hz := Nat.le_trans HBw.out.size (below_drew (Below.refl wr.heap.size wr)).size
      exact ⟨gs, gt, rfl, HS5.out, Nat.le_trans hz HG5.out, Nat.le_trans hz HT5.out, (below_drew HBw.out).trans (HB5.out.mono hz)⟩
end Go.Proofs.Ytilehfdplgciiaa.Hand
/-! What was saved is read back: the plain part. -/
namespace Go.Proofs.Ytilehfdplgciiaa.Hand
open Go.RowKit Go.Proofs.YtilehfdplgciiaaW.PrintWords Go.Proofs.Ytilehfdplgciiaa.PLM Go.Proofs.Ytilehfdplgciiaa.Plain
set_option linter.unusedVariables false

theorem save_size (s : ByteArray) (h n : Nat) (hs : s.size = 32) : (saveS s h n).size = 41 := by
  unfold saveS
  rw [ByteArray.size_append, ByteArray.size_append, hs, strOfNums_size]
  rfl
theorem save_head (s : ByteArray) (h n : Nat) (hs : s.size = 32) : (saveS s h n).extract 0 4 = ⟨#[75, 69, 89, 49]⟩ := by
  unfold saveS
  apply ByteArray.ext
  simp [ByteArray.data_extract, ByteArray.data_append, Array.extract_append]
theorem save_seed (s : ByteArray) (h n : Nat) (hs : s.size = 32) : (saveS s h n).extract 4 36 = s := by
  have hd : s.data.size = 32 := hs
  unfold saveS
  apply ByteArray.ext
  simp [ByteArray.data_extract, ByteArray.data_append, Array.extract_append, hd]
theorem save_tail (s : ByteArray) (h n : Nat) (hs : s.size = 32) : (saveS s h n).extract 37 41 = strOfNums [IntKind.u8.wrap ((n : Int) / 16777216), IntKind.u8.wrap ((n : Int) / 65536), IntKind.u8.wrap ((n : Int) / 256), IntKind.u8.wrap (n : Int)] := by
  have hd : s.data.size = 32 := hs
  unfold saveS
  apply ByteArray.ext
  simp [ByteArray.data_extract, ByteArray.data_append, Array.extract_append, hd, strOfNums]
end Go.Proofs.Ytilehfdplgciiaa.Hand
/-! What was saved is read back: the numbers. -/
namespace Go.Proofs.Ytilehfdplgciiaa.Hand
open Go.RowKit Go.Proofs.YtilehfdplgciiaaW.PrintWords Go.Proofs.Ytilehfdplgciiaa.PLM Go.Proofs.Ytilehfdplgciiaa.Plain
set_option linter.unusedVariables false

theorem u8_small (x : Int) (h0 : 0 ≤ x) (h1 : x ≤ 255) : IntKind.u8.wrap x = x := by unfold IntKind.wrap; simp [IntKind.bits, IntKind.signed]; omega
theorem save_num (s : ByteArray) (h n : Nat) (hs : s.size = 32) (hn : n ≤ 4) : lfP ((saveS s h n).extract 37 41) 4 = (n : Int) := by
  rw [save_tail s h n hs]
  have h4 : n = 0 ∨ n = 1 ∨ n = 2 ∨ n = 3 ∨ n = 4 := by omega
  rcases h4 with rfl | rfl | rfl | rfl | rfl <;> rfl
theorem save_h (s : ByteArray) (h n : Nat) (hs : s.size = 32) (h8 : h ≤ 8) : bt (saveS s h n) 36 = (h : Int) := by
  have hz := save_size s h n hs
  have hd : s.data.size = 32 := hs
  have l : (36 : Int).toNat < (saveS s h n).size := by rw [hz]; decide
  rw [← bt_at _ _ l]
  show (((saveS s h n).data[36]'(by show 36 < (saveS s h n).size; omega)).toNat : Int) = h
  unfold saveS
  simp only [ByteArray.data_append]
  rw [Array.getElem_append_right (by simp [hd])]
  simp [hd, strOfNums]
  omega
theorem load_save (w : World) (s : ByteArray) (h n : Nat) (hs : s.size = 32) (h8 : h ≤ 8) (hN : n ≤ 2 ^ h) (hn : n ≤ 4) :
    Calls Try.prog 38 #[.string (saveS s h n)] w fun e w' => ∃ gs gt : Nat, e = .returned (.tuple #[.pointer (some ⟨gs, 0, none⟩), .int .i64 0]) ∧ SS w' gs gt s h n ∧ w.heap.size ≤ gs ∧ w.heap.size ≤ gt ∧ Below w.heap.size w w' :=
  load_ok w (saveS s h n) s h n (save_size s h n hs) (save_head s h n hs) (save_seed s h n hs) (save_h s h n hs h8) (save_num s h n hs hn) hs h8 hN
end Go.Proofs.Ytilehfdplgciiaa.Hand
/-! Signers beside other blocks. -/
namespace Go.Proofs.Ytilehfdplgciiaa.Hand
open Go.RowKit Go.Proofs.YtilehfdplgciiaaW.PrintWords Go.Proofs.Ytilehfdplgciiaa.PLM Go.Proofs.Ytilehfdplgciiaa.Plain
set_option linter.unusedVariables false

/-- A signer stands behind what changes blocks of other types. -/
theorem SS.other {W W2 : World} {gs gt : Nat} {s : ByteArray} {h n : Nat} {S : Nat → Prop} (k : SS W gs gt s h n) (hk : Kp S W W2) (hgs : ¬ S gs) (hS : ∀ i, S i → ∃ cs ty fr, W.heap[i]? = some (.cells cs ty fr) ∧ ty ≠ 9 ∧ ty ≠ 26 ∧ ty ≠ 73) : SS W2 gs gt s h n := by
  have hgt : ¬ S gt := by
    intro hSt
    obtain ⟨cs, ty, fr, h1, _, _, h4⟩ := hS gt hSt
    obtain ⟨v, hT, _⟩ := k.2.1
    unfold Tr at hT
    rw [h1] at hT
    injection hT with hT
    injection hT with _ hT
    exact h4 hT
  exact ⟨(hk.block gs (blk_lt k.1) hgs).trans k.1, k.2.1.but hk hgt (fun i hi => by obtain ⟨cs, ty, fr, h1, h2, h3, _⟩ := hS i hi; exact ⟨cs, ty, fr, h1, h2, h3⟩), k.2.2⟩
end Go.Proofs.Ytilehfdplgciiaa.Hand
