/- Printed for this claim by print.py and a change of mine to it: some contracts are given (proved by hand). Lean checks it. -/
import Derived.Test.YtilehfdplgciiaaPLMx0
import Derived.Test.YtilehfdplgciiaaPLMx2
namespace Go.Proofs.Ytilehfdplgciiaa.PLM
open Go.RowKit Go.Proofs.YtilehfdplgciiaaW.PrintWords Go.Proofs.YtilehfdplgciiaaW.PrintLast Go.Proofs.YtilehfdplgciiaaW.PrintMore
open Go.Proofs.Ytilehfdplgciiaa.Given
attribute [local go_sem] max2_int min2_int max_two min_two max_three min_three max_four min_four   -- for this text's walks alone
set_option linter.unusedVariables false
set_option linter.unusedSimpArgs false

/-! ### certpathref11_SignOnce: function 26 -/
def certpathref11_SignOnce.l0 : Nat → ByteArray → ByteArray → Int → List Int → ByteArray → Int → Int → Option (ByteArray × Int)
  | 0, _, _, _, _, _, _, _ => none
  | k + 1, x0, x1, x2, x11, x13, x31, x32 => if x32 < x31 then (if 0 ≤ x32 then (if x32 < (x11.length : Int) then ((certpathref11_secret.f x1 x2 x32).bind fun t196 => ((certpathref11_walk.f k x0 x2 x32 0 (rd x11 x32) t196).bind fun t197 => (if x13.size + t197.size ≤ 9223372036854775807 then (certpathref11_SignOnce.l0 k x0 x1 x2 x11 (x13 ++ t197) x31 (wrap64 (x32 + 1))) else (none)))) else (none)) else (none)) else (some (x13, 0))
def certpathref11_SignOnce.f (k : Nat) (a0 : ByteArray) (a1 : ByteArray) (a2 : Int) (a3 : ByteArray) : Option (ByteArray × Int) := (certpathref11_check.f k a0 a1 a2).bind fun t190 => (if t190 = 0 then ((certpathref11_Digits.f k a3).bind fun bt191 => (if bt191.2 = 0 then (certpathref11_SignOnce.l0 k a0 a1 a2 bt191.1 (⟨#[]⟩ : ByteArray) (bt191.1.length : Int) 0) else (some ((⟨#[]⟩ : ByteArray), bt191.2)))) else (some ((⟨#[]⟩ : ByteArray), t190)))
theorem certpathref11_SignOnce.mono_l : ∀ k, (∀ y0 y1 y2 y3 y4 y5 y6, LeO (certpathref11_SignOnce.l0 k y0 y1 y2 y3 y4 y5 y6) (certpathref11_SignOnce.l0 (k + 1) y0 y1 y2 y3 y4 y5 y6))
  | 0 => fun _ _ _ _ _ _ _ r h => by simp [certpathref11_SignOnce.l0] at h
  | k + 1 => by
    have ih0 := certpathref11_SignOnce.mono_l k
    · intro y0 y1 y2 y3 y4 y5 y6
      unfold certpathref11_SignOnce.l0
      repeat' first
      | (with_reducible exact ih0 _ _ _ _ _ _ _)
      | (with_reducible exact certpathref11_Digits.mono _ _)
      | (with_reducible exact certpathref11_check.mono _ _ _ _)
      | (with_reducible exact certpathref11_walk.mono _ _ _ _ _ _ _)
      | (with_reducible exact LeO.refl _)
      | (with_reducible exact LeO.none _)
      | (with_reducible refine LeO.ite ?_ ?_)
      | (with_reducible refine LeO.bind ?_ (fun _ => ?_))
      | exact ih0 _ _ _ _ _ _ _
      | exact certpathref11_Digits.mono _ _
      | exact certpathref11_check.mono _ _ _ _
      | exact certpathref11_walk.mono _ _ _ _ _ _ _
      | exact LeO.none _
      | refine LeO.ite ?_ ?_
      | refine LeO.bind ?_ (fun _ => ?_)
theorem certpathref11_SignOnce.mono : ∀ a0 a1 a2 a3 k, LeO (certpathref11_SignOnce.f k a0 a1 a2 a3) (certpathref11_SignOnce.f (k + 1) a0 a1 a2 a3) := by
  intro a0 a1 a2 a3 k
  have ih0 := certpathref11_SignOnce.mono_l k
  unfold certpathref11_SignOnce.f
  repeat' first
      | (with_reducible exact ih0 _ _ _ _ _ _ _)
      | (with_reducible exact certpathref11_Digits.mono _ _)
      | (with_reducible exact certpathref11_check.mono _ _ _ _)
      | (with_reducible exact certpathref11_walk.mono _ _ _ _ _ _ _)
      | (with_reducible exact LeO.refl _)
      | (with_reducible exact LeO.none _)
      | (with_reducible refine LeO.ite ?_ ?_)
      | (with_reducible refine LeO.bind ?_ (fun _ => ?_))
      | exact ih0 _ _ _ _ _ _ _
      | exact certpathref11_Digits.mono _ _
      | exact certpathref11_check.mono _ _ _ _
      | exact certpathref11_walk.mono _ _ _ _ _ _ _
      | exact LeO.none _
      | refine LeO.ite ?_ ?_
      | refine LeO.bind ?_ (fun _ => ?_)
def certpathref11_SignOnce.T11 : Bool × List (List Nat × List Nat) := (true, [([], []), ([], []), ([], []), ([], []), ([], []), ([], []), ([4, 5], [4, 5]), ([6], [6]), ([], []), ([], []), ([], []), ([8, 9, 10], [8, 9, 10]), ([1, 2, 3, 7, 11, 11], [1, 2, 3, 7, 11]), ([0, 12], [0, 12]), ([13, 12, 0, 1, 2, 3, 4, 5, 6, 7, 8, 9, 10, 11, 12, 13], [0, 13])])
def certpathref11_SignOnce.B11 : List Nat := [0, 0, 0, 0, 0, 0, 48, 112, 0, 0, 0, 1792, 4094, 8191, 16383]
theorem certpathref11_SignOnce.tab11 : rtab .any (opsOf Try.f26 11) = certpathref11_SignOnce.T11 := by kernel_rfl
theorem certpathref11_SignOnce.bits11 : waitsOk certpathref11_SignOnce.T11.2 certpathref11_SignOnce.B11 = true := by kernel_rfl
set_option maxHeartbeats 8000000 in
set_option maxRecDepth 100000 in
theorem certpathref11_SignOnce.calls (k : Nat) (a0 : ByteArray) (a1 : ByteArray) (a2 : Int) (a3 : ByteArray) (r1 : ByteArray) (r2 : Int) (w : World) (h : certpathref11_SignOnce.f k a0 a1 a2 a3 = some (r1, r2)) :
    Calls Try.prog 26 #[.string a0, .string a1, .int .i64 a2, .string a3] w fun e w' => e = .returned (.tuple #[.string r1, .int .i64 r2]) ∧ Below w.heap.size w w' := by
  have HB := Aside0.mk (Below.refl w.heap.size w)
  have H : ((certpathref11_check.f k a0 a1 a2).bind fun t190 => (if t190 = 0 then ((certpathref11_Digits.f k a3).bind fun bt191 => (if bt191.2 = 0 then (certpathref11_SignOnce.l0 k a0 a1 a2 bt191.1 (⟨#[]⟩ : ByteArray) (bt191.1.length : Int) 0) else (some ((⟨#[]⟩ : ByteArray), bt191.2)))) else (some ((⟨#[]⟩ : ByteArray), t190)))) = some (r1, r2) := h
  clear h
  replace H := Option.bind_eq_some_iff.mp H
  obtain ⟨t190, A50, H⟩ := H
  replace H : (if t190 = 0 then ((certpathref11_Digits.f k a3).bind fun bt191 => (if bt191.2 = 0 then (certpathref11_SignOnce.l0 k a0 a1 a2 bt191.1 (⟨#[]⟩ : ByteArray) (bt191.1.length : Int) 0) else (some ((⟨#[]⟩ : ByteArray), bt191.2)))) else (some ((⟨#[]⟩ : ByteArray), t190))) = some (r1, r2) := H
  have A5 := Aside0.mk A50
  clear A50
  by_cases c6 : t190 = 0
  · rw [if_pos c6] at H
    have c6b0 : (t190 == 0) = true := beq_iff_eq.mpr c6
    have c6b1 : (t190 != 0) = false := bne_eq_false_iff_eq.mpr c6
    clear c6
    replace H := Option.bind_eq_some_iff.mp H
    obtain ⟨⟨t191, t192⟩, A70, H⟩ := H
    replace H : (if t192 = 0 then (certpathref11_SignOnce.l0 k a0 a1 a2 t191 (⟨#[]⟩ : ByteArray) (t191.length : Int) 0) else (some ((⟨#[]⟩ : ByteArray), t192))) = some (r1, r2) := H
    have A7 := Aside0.mk A70
    clear A70
    by_cases c8 : t192 = 0
    · rw [if_pos c8] at H
      have c8b0 : (t192 == 0) = true := beq_iff_eq.mpr c8
      have c8b1 : (t192 != 0) = false := bne_eq_false_iff_eq.mpr c8
      clear c8
      have H' := Aside0.mk H
      clear H
      go_enter Try.func26, Try.ntmps26
      go_wp2_with (first | ((with_reducible refine gate_callee (f := 66) rfl ?_); refine goesL_ (some 18) rfl rfl Try.func66 (by kernel_rfl) rfl #[.string a0, .string a1, .int .i64 a2] rfl (by (try simp only [List.map_toArray, List.map_cons, List.map_nil]); first | done | rfl | (simp only [List.length_drop, List.length_take]; rfl)) ?_; (with_reducible refine (certpathref11_check.calls k a0 a1 a2 t190 _ A5.out).mono ?_); rintro e w' ⟨rfl, ⟨nd, rfl⟩⟩; refine ⟨_, rfl, ?_⟩) | ((with_reducible refine gate_callee (f := 24) rfl ?_); refine goesL_ (some 24) rfl rfl Try.func24 (by kernel_rfl) rfl #[.string a3] rfl (by (try simp only [List.map_toArray, List.map_cons, List.map_nil]); first | done | rfl | (simp only [List.length_drop, List.length_take]; rfl)) ?_; (with_reducible refine (certpathref11_Digits.calls k a3 t191 t192 _ A7.out).mono ?_); rintro e w9 ⟨v193, rfl, ho0, hb⟩; refine ⟨_, rfl, ?_⟩; have n0_ := Aside0.mk (Kd.R_lower ho0 (below_size (by repeat (first | (with_reducible first | exact HB.out | apply below_alloc | apply pw_below_drewN | apply below_drew1) | exact HB.out)))); have n1_ := Aside0.mk (below_step (by repeat (first | (with_reducible first | exact HB.out | apply below_alloc | apply pw_below_drewN | apply below_drew1) | exact HB.out)) hb); clear HB; have HO194 := n0_; have HB := n1_; clear n0_ n1_; (try clear hb); (try clear hb2); (try clear hk); (try clear hi); (try clear ho0); obtain ⟨Ao10, co10, eo10⟩ := Kd.R_slice HO194.out; subst eo10))
      go_loopg [13, 32] k (fun kq v13 v32 w' => ∃ (x13_1 : ByteArray) (x32_1 : Int), v13 = .string x13_1 ∧ v32 = .int .i64 x32_1 ∧ Aside0 (certpathref11_SignOnce.l0 kq a0 a1 a2 t191 x13_1 (t191.length : Int) x32_1 = some (r1, r2)) ∧ Aside0 (kq ≤ k) ∧ Aside0 (Kd.R (Kd.int .i64) 3 w' w.heap.size (fun _ => True) (.slice Ao10 t191.length co10) t191) ∧ Aside0 (Below w.heap.size w w'))
      case atStart => exact ⟨((⟨#[]⟩ : ByteArray)), (0), (by first | rfl | (simp; done) | (simp [*]; done)), (by first | rfl | (simp; done) | (simp [*]; done)), H', ⟨Nat.le_refl _⟩, ⟨by (with_reducible repeat (first | apply Kd.R_alloc | apply Kd.R_drewN | apply Kd.R_drew)); exact HO194.out⟩, ⟨by repeat (first | (with_reducible first | exact HB.out | apply below_alloc | apply pw_below_drewN | apply below_drew1) | exact HB.out)⟩⟩
      case round =>
        clear H'
        try clear c2
        try clear p2
        try clear c6
        try clear c6b0
        try clear c6b1
        try clear c8
        try clear c8b0
        try clear c8b1
        obtain ⟨x13_1, x32_1, rfl, rfl, HA, HK1, HO_11, HB⟩ := hrel
        cases gk with
        | zero => exact absurd HA.out (by simp [certpathref11_SignOnce.l0])
        | succ k1 =>
          have H := HA.out
          clear HA
          simp only [certpathref11_SignOnce.l0] at H
          by_cases c11 : x32_1 < (t191.length : Int)
          · rw [if_pos c11] at H
            have c11b0 : decide (x32_1 < (t191.length : Int)) = true := decide_eq_true c11
            clear c11
            by_cases c12 : 0 ≤ x32_1
            · rw [if_pos c12] at H
              have c12b0 : decide (0 ≤ x32_1) = true := decide_eq_true c12
              clear c12
              by_cases c13 : x32_1 < (t191.length : Int)
              · rw [if_pos c13] at H
                have c13b0 : decide (x32_1 < (t191.length : Int)) = true := decide_eq_true c13
                clear c13
                replace H := Option.bind_eq_some_iff.mp H
                obtain ⟨t196, A140, H⟩ := H
                replace H : ((certpathref11_walk.f k1 a0 a2 x32_1 0 (rd t191 x32_1) t196).bind fun t197 => (if x13_1.size + t197.size ≤ 9223372036854775807 then (certpathref11_SignOnce.l0 k1 a0 a1 a2 t191 (x13_1 ++ t197) (t191.length : Int) (wrap64 (x32_1 + 1))) else (none))) = some (r1, r2) := H
                have A14 := Aside0.mk A140
                clear A140
                replace H := Option.bind_eq_some_iff.mp H
                obtain ⟨t197, A150, H⟩ := H
                replace H : (if x13_1.size + t197.size ≤ 9223372036854775807 then (certpathref11_SignOnce.l0 k1 a0 a1 a2 t191 (x13_1 ++ t197) (t191.length : Int) (wrap64 (x32_1 + 1))) else (none)) = some (r1, r2) := H
                have A15 := Aside0.mk A150
                clear A150
                by_cases c16 : x13_1.size + t197.size ≤ 9223372036854775807
                · rw [if_pos c16] at H
                  have c16b0 := eq_true c16
                  have c16b1 : decide (x13_1.size + t197.size ≤ 9223372036854775807) = true := decide_eq_true c16
                  try have c16b2 : (9223372036854775807 < x13_1.size + t197.size) = False := eq_false (Nat.not_lt.2 c16)
                  have H' := Aside0.mk H
                  clear H
                  try go_wp2
                  have n0_ := Aside0.mk (Kd.R_drew HO_11.out)
                  have n1_ := Aside0.mk (below_drew1 HB.out)
                  clear HO_11
                  clear HB
                  have HO_11 := n0_
                  have HB := n1_
                  clear n0_ n1_
                  have p195 : 0 ≤ (x32_1 : Int) := of_decide_eq_true (by first | (with_reducible assumption) | assumption)
                  have q195 : x32_1 < (t191.length : Int) := of_decide_eq_true (by first | (with_reducible assumption) | assumption)
                  obtain ⟨ad195, e195, hx195_0⟩ := Kd.at_int (Kd.R_reads' HO_11.out).2.2 x32_1 p195 q195
                  cases e195
                  replace p195 := eq_true p195
                  replace q195 := eq_true q195
                  refine start_ (n := 15) (S := fun w' => w'.cell? (ad195.add (x32_1).toNat) = some (.int .i64 (rd t191 x32_1))) (ds := []) #[false, false, false, false, false, false, false, false, false, false, false, false, false, false, false] (by kernel_rfl) rfl rfl (hx195_0) (fun hHeld => ?_); refine with_tabW certpathref11_SignOnce.tab11 certpathref11_SignOnce.bits11 (fun HT_ HW_ => ?_)
                  generalize wr.drew = w17 at HO_11 HB hx195_0 hHeld ⊢
                  refine pure_ (i := 0) (N := some 35) (v := ?_) (a' := ?_) #[true, false, false, false, false, false, false, false, false, false, false, false, false, false, false] rfl rfl (any_of HT_.out (by kernel_rfl)) (fun _ _ _ h => h) (Or.inl ⟨by rfl, ?_⟩) ?_ ?_
                  rotate_left
                  · intro w'
                    go_simp
                    with_reducible rfl
                  rotate_left
                  · simp only [Act.put, List.setIfInBounds_toArray, List.set_cons_zero, List.set_cons_succ, i64_w, i32_w]
                    rfl
                  refine pure_ (i := 1) (N := some 36) (v := ?_) (a' := ?_) #[true, true, false, false, false, false, false, false, false, false, false, false, false, false, false] rfl rfl (any_of HT_.out (by kernel_rfl)) (fun _ _ _ h => h) (Or.inl ⟨by rfl, ?_⟩) ?_ ?_
                  rotate_left
                  · intro w'
                    go_simp
                    with_reducible rfl
                  rotate_left
                  · simp only [Act.put, List.setIfInBounds_toArray, List.set_cons_zero, List.set_cons_succ, i64_w, i32_w]
                    rfl
                  refine pure_ (i := 2) (N := some 37) (v := ?_) (a' := ?_) #[true, true, true, false, false, false, false, false, false, false, false, false, false, false, false] rfl rfl (any_of HT_.out (by kernel_rfl)) (fun _ _ _ h => h) (Or.inl ⟨by rfl, ?_⟩) ?_ ?_
                  rotate_left
                  · intro w'
                    go_simp
                    with_reducible rfl
                  rotate_left
                  · simp only [Act.put, List.setIfInBounds_toArray, List.set_cons_zero, List.set_cons_succ, i64_w, i32_w]
                    rfl
                  refine pure_ (i := 3) (N := some 38) (v := ?_) (a' := ?_) #[true, true, true, true, false, false, false, false, false, false, false, false, false, false, false] rfl rfl (any_of HT_.out (by kernel_rfl)) (fun _ _ _ h => h) (Or.inl ⟨by rfl, ?_⟩) ?_ ?_
                  rotate_left
                  · intro w'
                    go_simp
                    with_reducible rfl
                  rotate_left
                  · simp only [Act.put, List.setIfInBounds_toArray, List.set_cons_zero, List.set_cons_succ, i64_w, i32_w]
                    rfl
                  refine pure_ (i := 4) (N := some 39) (v := ?_) (a' := ?_) #[true, true, true, true, true, false, false, false, false, false, false, false, false, false, false] rfl rfl (any_of HT_.out (by kernel_rfl)) (fun _ _ _ h => h) (Or.inl ⟨by rfl, ?_⟩) ?_ ?_
                  rotate_left
                  · intro w'
                    go_simp
                    with_reducible rfl
                  rotate_left
                  · simp only [Act.put, List.setIfInBounds_toArray, List.set_cons_zero, List.set_cons_succ, i64_w, i32_w]
                    rfl
                  refine pure_ (i := 5) (N := some 40) (v := ?_) (a' := ?_) #[true, true, true, true, true, true, false, false, false, false, false, false, false, false, false] rfl rfl (any_of HT_.out (by kernel_rfl)) (fun _ _ _ h => h) (Or.inl ⟨by rfl, ?_⟩) ?_ ?_
                  rotate_left
                  · intro w'
                    go_simp
                    with_reducible rfl
                  rotate_left
                  · simp only [Act.put, List.setIfInBounds_toArray, List.set_cons_zero, List.set_cons_succ, i64_w, i32_w]
                    rfl
                  refine pure_ (i := 6) (N := some 41) (v := ?_) (a' := ?_) #[true, true, true, true, true, true, true, false, false, false, false, false, false, false, false] rfl rfl (any_of HT_.out (by kernel_rfl)) (fun _ _ _ h => h) (Or.inl ⟨by rfl, ?_⟩) ?_ ?_
                  rotate_left
                  · intro w'
                    go_simp
                    with_reducible rfl
                  rotate_left
                  · simp only [Act.put, List.setIfInBounds_toArray, List.set_cons_zero, List.set_cons_succ, i64_w, i32_w]
                    rfl
                  refine pure_ (i := 8) (N := some 43) (v := ?_) (a' := ?_) #[true, true, true, true, true, true, true, false, true, false, false, false, false, false, false] rfl rfl (any_of HT_.out (by kernel_rfl)) (fun _ _ _ h => h) (Or.inl ⟨by rfl, ?_⟩) ?_ ?_
                  rotate_left
                  · intro w'
                    go_simp
                    with_reducible rfl
                  rotate_left
                  · simp only [Act.put, List.setIfInBounds_toArray, List.set_cons_zero, List.set_cons_succ, i64_w, i32_w]
                    rfl
                  refine pure_ (i := 9) (N := some 44) (v := ?_) (a' := ?_) #[true, true, true, true, true, true, true, false, true, true, false, false, false, false, false] rfl rfl (any_of HT_.out (by kernel_rfl)) (fun _ _ _ h => h) (Or.inl ⟨by rfl, ?_⟩) ?_ ?_
                  rotate_left
                  · intro w'
                    go_simp
                    with_reducible rfl
                  rotate_left
                  · simp only [Act.put, List.setIfInBounds_toArray, List.set_cons_zero, List.set_cons_succ, i64_w, i32_w]
                    rfl
                  refine pure_ (i := 10) (N := some 45) (v := ?_) (a' := ?_) #[true, true, true, true, true, true, true, false, true, true, true, false, false, false, false] rfl rfl (any_of HT_.out (by kernel_rfl)) (fun _ _ _ h => h) (Or.inl ⟨by rfl, ?_⟩) ?_ ?_
                  rotate_left
                  · intro w'
                    go_simp
                    with_reducible rfl
                  rotate_left
                  · simp only [Act.put, List.setIfInBounds_toArray, List.set_cons_zero, List.set_cons_succ, i64_w, i32_w]
                    rfl
                  refine take_ (i := 7) (N := some 42) (v := ?_) (a' := ?_) #[true, true, true, true, true, true, true, true, true, true, true, false, false, false, false] rfl rfl (take_ofW HT_.out HW_.out (by kernel_rfl)) (fun _ _ _ h => h) (Or.inl ⟨by rfl, ?_⟩) hHeld ?_ ?_
                  rotate_left
                  · intro w' s0
                    go_simp
                    with_reducible rfl
                  rotate_left
                  · simp only [Act.put, List.setIfInBounds_toArray, List.set_cons_zero, List.set_cons_succ, i64_w, i32_w]
                    rfl
                  refine one_ (i := 11) (N := some 46) #[true, true, true, true, true, true, true, true, true, true, true, true, false, false, false] rfl rfl (one_of HT_.out (by kernel_rfl)) (by decide) (fun K hK => ?_)
                  refine goes_ Try.func68 (by kernel_rfl) rfl #[.string a1, .int .i64 a2, .int .i64 x32_1] (by rfl) rfl rfl (by (try simp only [List.map_toArray, List.map_cons, List.map_nil]); first | done | rfl | (simp only [List.length_drop, List.length_take]; rfl)) ?_
                  with_reducible refine (certpathref11_secret.calls a1 a2 x32_1 t196 _ A14.out).mono ?_
                  rintro e w18 ⟨rfl, hb⟩
                  have HS0_ := (hb.cell (World.block_lt_of_cell? _ _ (hHeld))).trans (hHeld)
                  refine ⟨_, rfl, ?_⟩
                  have n0_ := Aside0.mk (Kd.R_below (by (with_reducible repeat (first | apply Kd.R_alloc | apply Kd.R_drewN | apply Kd.R_drew)); exact HO_11.out) hb)
                  have n1_ := Aside0.mk (below_step (by repeat (first | (with_reducible first | exact HB.out | apply below_alloc | apply pw_below_drewN | apply below_drew1) | exact HB.out)) hb)
                  clear HO_11
                  clear HB
                  have HO_11 := n0_
                  have HB := n1_
                  clear n0_ n1_
                  (try clear hb)
                  (try clear hb2)
                  (try clear hk)
                  (try clear hi)
                  refine hK.out _ _ (HS0_) (fun hHeld => ?_)
                  clear hK K
                  refine norm_ (a' := ?_) ?_ ?_
                  rotate_left
                  · show Act.put _ (some 46) _ = _
                    simp only [Act.put, List.setIfInBounds_toArray, List.set_cons_zero, List.set_cons_succ, i64_w, i32_w]
                    rfl
                  refine one_ (i := 12) (N := some 47) #[true, true, true, true, true, true, true, true, true, true, true, true, true, false, false] rfl rfl (one_of HT_.out (by kernel_rfl)) (by decide) (fun K hK => ?_)
                  refine goes_ Try.func67 (by kernel_rfl) rfl #[.string a0, .int .i64 a2, .int .i64 x32_1, .int .i64 0, .int .i64 (rd t191 x32_1), .string t196] (by rfl) rfl rfl (by (try simp only [List.map_toArray, List.map_cons, List.map_nil]); first | done | rfl | (simp only [List.length_drop, List.length_take]; rfl)) ?_
                  with_reducible refine (certpathref11_walk.calls k1 a0 a2 x32_1 0 (rd t191 x32_1) t196 t197 _ A15.out).mono ?_
                  rintro e w19 ⟨rfl, hb⟩
                  have HS0_ := (hb.cell (World.block_lt_of_cell? _ _ (hHeld))).trans (hHeld)
                  refine ⟨_, rfl, ?_⟩
                  have n0_ := Aside0.mk (Kd.R_below (by (with_reducible repeat (first | apply Kd.R_alloc | apply Kd.R_drewN | apply Kd.R_drew)); exact HO_11.out) hb)
                  have n1_ := Aside0.mk (below_step (by repeat (first | (with_reducible first | exact HB.out | apply below_alloc | apply pw_below_drewN | apply below_drew1) | exact HB.out)) hb)
                  clear HO_11
                  clear HB
                  have HO_11 := n0_
                  have HB := n1_
                  clear n0_ n1_
                  (try clear hb)
                  (try clear hb2)
                  (try clear hk)
                  (try clear hi)
                  refine hK.out _ _ (HS0_) (fun hHeld => ?_)
                  clear hK K
                  refine norm_ (a' := ?_) ?_ ?_
                  rotate_left
                  · show Act.put _ (some 47) _ = _
                    simp only [Act.put, List.setIfInBounds_toArray, List.set_cons_zero, List.set_cons_succ, i64_w, i32_w]
                    rfl
                  refine pure_ (i := 13) (N := some 48) (v := ?_) (a' := ?_) #[true, true, true, true, true, true, true, true, true, true, true, true, true, true, false] rfl rfl (any_of HT_.out (by kernel_rfl)) (fun _ _ _ h => h) (Or.inl ⟨by rfl, ?_⟩) ?_ ?_
                  rotate_left
                  · intro w'
                    go_simp
                    with_reducible rfl
                  rotate_left
                  · simp only [Act.put, List.setIfInBounds_toArray, List.set_cons_zero, List.set_cons_succ, i64_w, i32_w]
                    rfl
                  refine pure_ (i := 14) (N := some 13) (v := ?_) (a' := ?_) #[true, true, true, true, true, true, true, true, true, true, true, true, true, true, true] rfl rfl (any_of HT_.out (by kernel_rfl)) (fun _ _ _ h => h) (Or.inl ⟨by rfl, ?_⟩) ?_ ?_
                  rotate_left
                  · intro w'
                    go_simp
                    with_reducible rfl
                  rotate_left
                  · simp only [Act.put, List.setIfInBounds_toArray, List.set_cons_zero, List.set_cons_succ, i64_w, i32_w]
                    rfl
                  refine done_ (done_of HT_.out (by kernel_rfl)) ?_
                  try go_wp2
                  go_roundg k1
                  case measure => have := HK1.out; omega
                  case rel => exact ⟨(x13_1 ++ t197), (wrap64 (x32_1 + 1)), (by first | rfl | (simp; done) | (simp [*]; done)), (by first | rfl | (simp; done) | (simp [*]; done)), H', ⟨by have := HK1.out; omega⟩, ⟨by (with_reducible repeat (first | apply Kd.R_alloc | apply Kd.R_drewN | apply Kd.R_drew)); exact HO_11.out⟩, ⟨by repeat (first | (with_reducible first | exact HB.out | apply below_alloc | apply pw_below_drewN | apply below_drew1) | exact HB.out)⟩⟩
                · rw [if_neg c16] at H
                  exact absurd H (by simp)
              · rw [if_neg c13] at H
                exact absurd H (by simp)
            · rw [if_neg c12] at H
              exact absurd H (by simp)
          · rw [if_neg c11] at H
            have c11b0 : decide (x32_1 < (t191.length : Int)) = false := decide_eq_false c11
            clear c11
            simp only [Option.some.injEq, Prod.mk.injEq] at H
            obtain ⟨rfl, rfl⟩ := H
            go_wp2
            go_ret2
            exact ⟨by first | rfl | (simp [errW_none, errW_some] <;> rfl) | (simp [*, errW_none, errW_some] <;> rfl), by repeat (first | (with_reducible first | exact HB.out | apply below_alloc | apply pw_below_drewN | apply below_drew1) | exact HB.out)⟩
    · rw [if_neg c8] at H
      have c8b0 : (t192 == 0) = false := beq_eq_false_iff_ne.mpr c8
      have c8b1 : (t192 != 0) = true := bne_iff_ne.mpr c8
      simp only [Option.some.injEq, Prod.mk.injEq] at H
      obtain ⟨rfl, rfl⟩ := H
      go_enter Try.func26, Try.ntmps26
      go_wp2_with (first | ((with_reducible refine gate_callee (f := 66) rfl ?_); refine goesL_ (some 18) rfl rfl Try.func66 (by kernel_rfl) rfl #[.string a0, .string a1, .int .i64 a2] rfl (by (try simp only [List.map_toArray, List.map_cons, List.map_nil]); first | done | rfl | (simp only [List.length_drop, List.length_take]; rfl)) ?_; (with_reducible refine (certpathref11_check.calls k a0 a1 a2 t190 _ A5.out).mono ?_); rintro e w' ⟨rfl, ⟨nd, rfl⟩⟩; refine ⟨_, rfl, ?_⟩) | ((with_reducible refine gate_callee (f := 24) rfl ?_); refine goesL_ (some 24) rfl rfl Try.func24 (by kernel_rfl) rfl #[.string a3] rfl (by (try simp only [List.map_toArray, List.map_cons, List.map_nil]); first | done | rfl | (simp only [List.length_drop, List.length_take]; rfl)) ?_; (with_reducible refine (certpathref11_Digits.calls k a3 t191 t192 _ A7.out).mono ?_); rintro e w20 ⟨v193, rfl, ho0, hb⟩; refine ⟨_, rfl, ?_⟩; have n0_ := Aside0.mk (Kd.R_lower ho0 (below_size (by repeat (first | (with_reducible first | exact HB.out | apply below_alloc | apply pw_below_drewN | apply below_drew1) | exact HB.out)))); have n1_ := Aside0.mk (below_step (by repeat (first | (with_reducible first | exact HB.out | apply below_alloc | apply pw_below_drewN | apply below_drew1) | exact HB.out)) hb); clear HB; have HO194 := n0_; have HB := n1_; clear n0_ n1_; (try clear hb); (try clear hb2); (try clear hk); (try clear hi); (try clear ho0)))
      go_ret2
      exact ⟨by first | rfl | (simp [errW_none, errW_some] <;> rfl) | (simp [*, errW_none, errW_some] <;> rfl), by repeat (first | (with_reducible first | exact HB.out | apply below_alloc | apply pw_below_drewN | apply below_drew1) | exact HB.out)⟩
  · rw [if_neg c6] at H
    have c6b0 : (t190 == 0) = false := beq_eq_false_iff_ne.mpr c6
    have c6b1 : (t190 != 0) = true := bne_iff_ne.mpr c6
    simp only [Option.some.injEq, Prod.mk.injEq] at H
    obtain ⟨rfl, rfl⟩ := H
    go_enter Try.func26, Try.ntmps26
    go_wp2_with (first | ((with_reducible refine gate_callee (f := 66) rfl ?_); refine goesL_ (some 18) rfl rfl Try.func66 (by kernel_rfl) rfl #[.string a0, .string a1, .int .i64 a2] rfl (by (try simp only [List.map_toArray, List.map_cons, List.map_nil]); first | done | rfl | (simp only [List.length_drop, List.length_take]; rfl)) ?_; (with_reducible refine (certpathref11_check.calls k a0 a1 a2 t190 _ A5.out).mono ?_); rintro e w' ⟨rfl, ⟨nd, rfl⟩⟩; refine ⟨_, rfl, ?_⟩))
    go_ret2
    exact ⟨by first | rfl | (simp [errW_none, errW_some] <;> rfl) | (simp [*, errW_none, errW_some] <;> rfl), by repeat (first | (with_reducible first | exact HB.out | apply below_alloc | apply pw_below_drewN | apply below_drew1) | exact HB.out)⟩

/-! ### certpathref11_Public: function 33 -/
def certpathref11_Public.l0 : Nat → ByteArray → ByteArray → Int → ByteArray → Int → Option (ByteArray × Int)
  | 0, _, _, _, _, _ => none
  | k + 1, x0, x1, x2, x9, x10 => if x10 < 35 then ((certpathref11_secret.f x1 x2 x10).bind fun t199 => ((certpathref11_walk.f k x0 x2 x10 0 15 t199).bind fun t200 => (if x9.size + t200.size ≤ 9223372036854775807 then (certpathref11_Public.l0 k x0 x1 x2 (x9 ++ t200) (wrap64 (x10 + 1))) else (none)))) else ((certpathref11_B4.f x2).bind fun t201 => ((certpathref01_Short.f (([(⟨#[76]⟩ : ByteArray), x0, t201, x9] : List ByteArray))).bind fun t205 => (some (t205, 0))))
def certpathref11_Public.f (k : Nat) (a0 : ByteArray) (a1 : ByteArray) (a2 : Int) : Option (ByteArray × Int) := (certpathref11_check.f k a0 a1 a2).bind fun t198 => (if t198 = 0 then (certpathref11_Public.l0 k a0 a1 a2 (⟨#[]⟩ : ByteArray) 0) else (some ((⟨#[]⟩ : ByteArray), t198)))
theorem certpathref11_Public.mono_l : ∀ k, (∀ y0 y1 y2 y3 y4, LeO (certpathref11_Public.l0 k y0 y1 y2 y3 y4) (certpathref11_Public.l0 (k + 1) y0 y1 y2 y3 y4))
  | 0 => fun _ _ _ _ _ r h => by simp [certpathref11_Public.l0] at h
  | k + 1 => by
    have ih0 := certpathref11_Public.mono_l k
    · intro y0 y1 y2 y3 y4
      unfold certpathref11_Public.l0
      repeat' first
      | (with_reducible exact ih0 _ _ _ _ _)
      | (with_reducible exact certpathref11_check.mono _ _ _ _)
      | (with_reducible exact certpathref11_walk.mono _ _ _ _ _ _ _)
      | (with_reducible exact LeO.refl _)
      | (with_reducible exact LeO.none _)
      | (with_reducible refine LeO.ite ?_ ?_)
      | (with_reducible refine LeO.bind ?_ (fun _ => ?_))
      | exact ih0 _ _ _ _ _
      | exact certpathref11_check.mono _ _ _ _
      | exact certpathref11_walk.mono _ _ _ _ _ _ _
      | exact LeO.none _
      | refine LeO.ite ?_ ?_
      | refine LeO.bind ?_ (fun _ => ?_)
theorem certpathref11_Public.mono : ∀ a0 a1 a2 k, LeO (certpathref11_Public.f k a0 a1 a2) (certpathref11_Public.f (k + 1) a0 a1 a2) := by
  intro a0 a1 a2 k
  have ih0 := certpathref11_Public.mono_l k
  unfold certpathref11_Public.f
  repeat' first
      | (with_reducible exact ih0 _ _ _ _ _)
      | (with_reducible exact certpathref11_check.mono _ _ _ _)
      | (with_reducible exact certpathref11_walk.mono _ _ _ _ _ _ _)
      | (with_reducible exact LeO.refl _)
      | (with_reducible exact LeO.none _)
      | (with_reducible refine LeO.ite ?_ ?_)
      | (with_reducible refine LeO.bind ?_ (fun _ => ?_))
      | exact ih0 _ _ _ _ _
      | exact certpathref11_check.mono _ _ _ _
      | exact certpathref11_walk.mono _ _ _ _ _ _ _
      | exact LeO.none _
      | refine LeO.ite ?_ ?_
      | refine LeO.bind ?_ (fun _ => ?_)
set_option maxHeartbeats 8000000 in
set_option maxRecDepth 100000 in
theorem certpathref11_Public.calls (k : Nat) (a0 : ByteArray) (a1 : ByteArray) (a2 : Int) (r1 : ByteArray) (r2 : Int) (w : World) (h : certpathref11_Public.f k a0 a1 a2 = some (r1, r2)) :
    Calls Try.prog 33 #[.string a0, .string a1, .int .i64 a2] w fun e w' => e = .returned (.tuple #[.string r1, .int .i64 r2]) ∧ Below w.heap.size w w' := by
  have HB := Aside0.mk (Below.refl w.heap.size w)
  have H : ((certpathref11_check.f k a0 a1 a2).bind fun t198 => (if t198 = 0 then (certpathref11_Public.l0 k a0 a1 a2 (⟨#[]⟩ : ByteArray) 0) else (some ((⟨#[]⟩ : ByteArray), t198)))) = some (r1, r2) := h
  clear h
  replace H := Option.bind_eq_some_iff.mp H
  obtain ⟨t198, A40, H⟩ := H
  replace H : (if t198 = 0 then (certpathref11_Public.l0 k a0 a1 a2 (⟨#[]⟩ : ByteArray) 0) else (some ((⟨#[]⟩ : ByteArray), t198))) = some (r1, r2) := H
  have A4 := Aside0.mk A40
  clear A40
  by_cases c5 : t198 = 0
  · rw [if_pos c5] at H
    have c5b0 : (t198 == 0) = true := beq_iff_eq.mpr c5
    have c5b1 : (t198 != 0) = false := bne_eq_false_iff_eq.mpr c5
    clear c5
    have H' := Aside0.mk H
    clear H
    go_enter Try.func33, Try.ntmps33
    go_wp2_with (first | ((with_reducible refine gate_callee (f := 66) rfl ?_); refine goesL_ (some 14) rfl rfl Try.func66 (by kernel_rfl) rfl #[.string a0, .string a1, .int .i64 a2] rfl (by (try simp only [List.map_toArray, List.map_cons, List.map_nil]); first | done | rfl | (simp only [List.length_drop, List.length_take]; rfl)) ?_; (with_reducible refine (certpathref11_check.calls k a0 a1 a2 t198 _ A4.out).mono ?_); rintro e w' ⟨rfl, ⟨nd, rfl⟩⟩; refine ⟨_, rfl, ?_⟩))
    go_loopg [9, 10] k (fun kq v9 v10 w' => ∃ (x9_1 : ByteArray) (x10_1 : Int), v9 = .string x9_1 ∧ v10 = .int .i64 x10_1 ∧ Aside0 (certpathref11_Public.l0 kq a0 a1 a2 x9_1 x10_1 = some (r1, r2)) ∧ Aside0 (kq ≤ k) ∧ Aside0 (Below w.heap.size w w'))
    case atStart => exact ⟨((⟨#[]⟩ : ByteArray)), (0), (by first | rfl | (simp; done) | (simp [*]; done)), (by first | rfl | (simp; done) | (simp [*]; done)), H', ⟨Nat.le_refl _⟩, ⟨by repeat (first | (with_reducible first | exact HB.out | apply below_alloc | apply pw_below_drewN | apply below_drew1) | exact HB.out)⟩⟩
    case round =>
      clear H'
      try clear p2
      try clear c3
      try clear c5
      try clear c5b0
      try clear c5b1
      obtain ⟨x9_1, x10_1, rfl, rfl, HA, HK1, HB⟩ := hrel
      cases gk with
      | zero => exact absurd HA.out (by simp [certpathref11_Public.l0])
      | succ k1 =>
        have H := HA.out
        clear HA
        simp only [certpathref11_Public.l0] at H
        by_cases c6 : x10_1 < 35
        · rw [if_pos c6] at H
          have c6b0 : decide (x10_1 < 35) = true := decide_eq_true c6
          clear c6
          replace H := Option.bind_eq_some_iff.mp H
          obtain ⟨t199, A70, H⟩ := H
          replace H : ((certpathref11_walk.f k1 a0 a2 x10_1 0 15 t199).bind fun t200 => (if x9_1.size + t200.size ≤ 9223372036854775807 then (certpathref11_Public.l0 k1 a0 a1 a2 (x9_1 ++ t200) (wrap64 (x10_1 + 1))) else (none))) = some (r1, r2) := H
          have A7 := Aside0.mk A70
          clear A70
          replace H := Option.bind_eq_some_iff.mp H
          obtain ⟨t200, A80, H⟩ := H
          replace H : (if x9_1.size + t200.size ≤ 9223372036854775807 then (certpathref11_Public.l0 k1 a0 a1 a2 (x9_1 ++ t200) (wrap64 (x10_1 + 1))) else (none)) = some (r1, r2) := H
          have A8 := Aside0.mk A80
          clear A80
          by_cases c9 : x9_1.size + t200.size ≤ 9223372036854775807
          · rw [if_pos c9] at H
            have c9b0 := eq_true c9
            have c9b1 : decide (x9_1.size + t200.size ≤ 9223372036854775807) = true := decide_eq_true c9
            try have c9b2 : (9223372036854775807 < x9_1.size + t200.size) = False := eq_false (Nat.not_lt.2 c9)
            have H' := Aside0.mk H
            clear H
            go_wp2_with (first | ((with_reducible refine gate_callee (f := 68) rfl ?_); refine goesL_ (some 29) rfl rfl Try.func68 (by kernel_rfl) rfl #[.string a1, .int .i64 a2, .int .i64 x10_1] rfl (by (try simp only [List.map_toArray, List.map_cons, List.map_nil]); first | done | rfl | (simp only [List.length_drop, List.length_take]; rfl)) ?_; (with_reducible refine (certpathref11_secret.calls a1 a2 x10_1 t199 _ A7.out).mono ?_); rintro e w10 ⟨rfl, hb⟩; refine ⟨_, rfl, ?_⟩; have n0_ := Aside0.mk (below_step (by repeat (first | (with_reducible first | exact HB.out | apply below_alloc | apply pw_below_drewN | apply below_drew1) | exact HB.out)) hb); clear HB; have HB := n0_; clear n0_; (try clear hb); (try clear hb2); (try clear hk); (try clear hi)) | ((with_reducible refine gate_callee (f := 67) rfl ?_); refine goesL_ (some 30) rfl rfl Try.func67 (by kernel_rfl) rfl #[.string a0, .int .i64 a2, .int .i64 x10_1, .int .i64 0, .int .i64 15, .string t199] rfl (by (try simp only [List.map_toArray, List.map_cons, List.map_nil]); first | done | rfl | (simp only [List.length_drop, List.length_take]; rfl)) ?_; (with_reducible refine (certpathref11_walk.calls k1 a0 a2 x10_1 0 15 t199 t200 _ A8.out).mono ?_); rintro e w11 ⟨rfl, hb⟩; refine ⟨_, rfl, ?_⟩; have n0_ := Aside0.mk (below_step (by repeat (first | (with_reducible first | exact HB.out | apply below_alloc | apply pw_below_drewN | apply below_drew1) | exact HB.out)) hb); clear HB; have HB := n0_; clear n0_; (try clear hb); (try clear hb2); (try clear hk); (try clear hi)))
            go_roundg k1
            case measure => have := HK1.out; omega
            case rel => exact ⟨(x9_1 ++ t200), (wrap64 (x10_1 + 1)), (by first | rfl | (simp; done) | (simp [*]; done)), (by first | rfl | (simp; done) | (simp [*]; done)), H', ⟨by have := HK1.out; omega⟩, ⟨by repeat (first | (with_reducible first | exact HB.out | apply below_alloc | apply pw_below_drewN | apply below_drew1) | exact HB.out)⟩⟩
          · rw [if_neg c9] at H
            exact absurd H (by simp)
        · rw [if_neg c6] at H
          have c6b0 : decide (x10_1 < 35) = false := decide_eq_false c6
          clear c6
          replace H := Option.bind_eq_some_iff.mp H
          obtain ⟨t201, A120, H⟩ := H
          replace H : ((certpathref01_Short.f (([(⟨#[76]⟩ : ByteArray), a0, t201, x9_1] : List ByteArray))).bind fun t205 => (some (t205, 0))) = some (r1, r2) := H
          have A12 := Aside0.mk A120
          clear A120
          obtain ⟨y202, hy202⟩ : ∃ y_ : List ByteArray, y_ = (([(⟨#[76]⟩ : ByteArray), a0, t201, x9_1] : List ByteArray)) := ⟨_, rfl⟩
          replace H : ((certpathref01_Short.f y202).bind fun t205 => (some (t205, 0))) = some (r1, r2) := by first | (rw [hy202]; with_reducible exact H) | (have H2_ := (Option.bind_some _ _).symm.trans H; rw [hy202]; with_reducible exact H2_) | (have H2_ := (Option.bind_some _ _).symm.trans H; with_reducible exact H2_) | with_reducible exact H | (rw [hy202]; exact H) | exact H
          have Ny202 := Aside0.mk hy202
          clear hy202
          replace H := Option.bind_eq_some_iff.mp H
          obtain ⟨t205, A130, H⟩ := H
          replace H : (some (t205, 0)) = some (r1, r2) := H
          have A13 := Aside0.mk A130
          clear A130
          simp only [Option.some.injEq, Prod.mk.injEq] at H
          obtain ⟨rfl, rfl⟩ := H
          go_wp2_with (first | ((with_reducible refine gate_callee (f := 70) rfl ?_); refine goesL_ (some 34) rfl rfl Try.func70 (by kernel_rfl) rfl #[.int .i64 a2] rfl (by (try simp only [List.map_toArray, List.map_cons, List.map_nil]); first | done | rfl | (simp only [List.length_drop, List.length_take]; rfl)) ?_; (with_reducible refine (certpathref11_B4.calls a2 t201 _ A12.out).mono ?_); rintro e w14 ⟨rfl, hb⟩; refine ⟨_, rfl, ?_⟩; have n0_ := Aside0.mk (below_step (by repeat (first | (with_reducible first | exact HB.out | apply below_alloc | apply pw_below_drewN | apply below_drew1) | exact HB.out)) hb); clear HB; have HB := n0_; clear n0_; (try clear hb); (try clear hb2); (try clear hk); (try clear hi)) | ((with_reducible refine gate_dst (N := 36) rfl ?_); refine Kd.R_lit Kd.string _ 9 ?hg (N := 36) ?hd (xs := ([(⟨#[76]⟩ : ByteArray), a0, t201, x9_1] : List ByteArray)) (inner := [.string (⟨#[76]⟩ : ByteArray), .string a0, .string t201, .string x9_1]) (ok := fun _ => True) (okp := fun _ => True) ?hr ?hp (fun _ hk => hk) trivial (Below.refl _ _) (Nat.le_refl _) (by simp) ?_; (case hd => rfl); (case hg => rfl); (case hr => first | (go_simp; done) | (go_simp; rfl)); (case hp => exact (Reps.one (show Kd.M Kd.string _ _ _ (⟨#[76]⟩ : ByteArray) [.string (⟨#[76]⟩ : ByteArray)] from rfl) (Reps.one (show Kd.M Kd.string _ _ _ a0 [.string a0] from rfl) (Reps.one (show Kd.M Kd.string _ _ _ t201 [.string t201] from rfl) (Reps.one (show Kd.M Kd.string _ _ _ x9_1 [.string x9_1] from rfl) (Reps.none _ _)))))); intro v203 w15 ho16 hb hg_ hnew_; clear hg_ hnew_; (first | rw [← Ny202.out] at ho16 | (simp only [Int.reduceToNat] at ho16; rw [← Ny202.out] at ho16)); have n0_ := Aside0.mk (Kd.R_lower ho16 (below_size (by repeat (first | (with_reducible first | exact HB.out | apply below_alloc | apply pw_below_drewN | apply below_drew1) | exact HB.out)))); have n1_ := Aside0.mk (below_step (by repeat (first | (with_reducible first | exact HB.out | apply below_alloc | apply pw_below_drewN | apply below_drew1) | exact HB.out)) hb); clear HB; have HO204 := n0_; have HB := n1_; clear n0_ n1_; clear hb ho16; obtain ⟨Ao17, co17, eo17⟩ := Kd.R_slice HO204.out; subst eo17) | ((with_reducible refine gate_callee (f := 65) rfl ?_); refine goesL_ (some 37) rfl rfl Try.func65 (by kernel_rfl) rfl #[.slice Ao17 y202.length co17] rfl (by (try simp only [List.map_toArray, List.map_cons, List.map_nil]); first | done | rfl | (simp only [List.length_drop, List.length_take]; rfl)) ?_; (with_reducible refine (certpathref01_Short.calls _ _ y202 t205 _ ?side1 ?side2 A13.out).mono ?_); (case side1 => repeat (first | exact (Kd.R_reads' HO204.out).2.2 | (with_reducible refine Kd.C_alloc ?_ _) | (with_reducible refine Kd.C_drewN ?_ _) | (with_reducible refine Kd.C_drew ?_))); (case side2 => exact (Kd.R_reads' HO204.out).2.1); rintro e w18 ⟨rfl, hb⟩; refine ⟨_, rfl, ?_⟩; have n0_ := Aside0.mk (Kd.R_below (by (with_reducible repeat (first | apply Kd.R_alloc | apply Kd.R_drewN | apply Kd.R_drew)); exact HO204.out) hb); have n1_ := Aside0.mk (below_step (by repeat (first | (with_reducible first | exact HB.out | apply below_alloc | apply pw_below_drewN | apply below_drew1) | exact HB.out)) hb); clear HO204; clear HB; have HO204 := n0_; have HB := n1_; clear n0_ n1_; (try clear hb); (try clear hb2); (try clear hk); (try clear hi)))
          go_ret2
          exact ⟨by first | rfl | (simp [errW_none, errW_some] <;> rfl) | (simp [*, errW_none, errW_some] <;> rfl), by repeat (first | (with_reducible first | exact HB.out | apply below_alloc | apply pw_below_drewN | apply below_drew1) | exact HB.out)⟩
  · rw [if_neg c5] at H
    have c5b0 : (t198 == 0) = false := beq_eq_false_iff_ne.mpr c5
    have c5b1 : (t198 != 0) = true := bne_iff_ne.mpr c5
    simp only [Option.some.injEq, Prod.mk.injEq] at H
    obtain ⟨rfl, rfl⟩ := H
    go_enter Try.func33, Try.ntmps33
    go_wp2_with (first | ((with_reducible refine gate_callee (f := 66) rfl ?_); refine goesL_ (some 14) rfl rfl Try.func66 (by kernel_rfl) rfl #[.string a0, .string a1, .int .i64 a2] rfl (by (try simp only [List.map_toArray, List.map_cons, List.map_nil]); first | done | rfl | (simp only [List.length_drop, List.length_take]; rfl)) ?_; (with_reducible refine (certpathref11_check.calls k a0 a1 a2 t198 _ A4.out).mono ?_); rintro e w' ⟨rfl, ⟨nd, rfl⟩⟩; refine ⟨_, rfl, ?_⟩))
    go_ret2
    exact ⟨by first | rfl | (simp [errW_none, errW_some] <;> rfl) | (simp [*, errW_none, errW_some] <;> rfl), by repeat (first | (with_reducible first | exact HB.out | apply below_alloc | apply pw_below_drewN | apply below_drew1) | exact HB.out)⟩

end Go.Proofs.Ytilehfdplgciiaa.PLM
