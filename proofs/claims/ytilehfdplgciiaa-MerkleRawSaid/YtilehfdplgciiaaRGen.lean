import Derived.Test.YtilehfdplgciiaaVer
/-! The reference's Generate, walked. -/
namespace Go.Proofs.Ytilehfdplgciiaa.Hand
open Go.RowKit Go.Proofs.YtilehfdplgciiaaW.PrintWords Go.Proofs.Ytilehfdplgciiaa.PLM Go.Proofs.Ytilehfdplgciiaa.Plain
set_option linter.unusedVariables false
attribute [local go_sem ↓] Go.wp_at_zero Go.wp_at_succ

theorem rpub_any (id s : ByteArray) (i : Nat) (h1 : id.size = 16) (h2 : s.size = 32) (h3 : i < 256) (W : World) :
    Calls Try.prog 33 #[.string id, .string s, .int .i64 i] W fun e w' => e = .returned (.tuple #[.string (leafKey id s i), .int .i64 0]) ∧ Below W.heap.size W w' :=
  certpathref11_Public.calls 60 id s i _ _ W (by rw [ref_pub_f id s i 60 (by decide), pubR_ok id s i h1 h2 h3])
theorem rb1_any (x : Int) (W : World) : Calls Try.prog 77 #[.int .i64 x] W fun e w' => e = .returned (.string (b1 x)) ∧ Below W.heap.size W w' := certpathref11_B1.calls x _ W rfl
theorem rb4_any (x : Int) (W : World) : Calls Try.prog 70 #[.int .i64 x] W fun e w' => e = .returned (.string (b4 x)) ∧ Below W.heap.size W w' := certpathref11_B4.calls x _ W rfl
theorem rname_any (s : ByteArray) (h : s.size ≤ 1000) (A : Option Addr) (c : Nat) (hc : 2 ≤ c) (W : World) (hR : Kd.C Kd.string W A 2 [⟨#[73]⟩, s]) :
    Calls Try.prog 65 #[.slice A 2 c] W fun e w' => e = .returned (.string (nameOf s)) ∧ Below W.heap.size W w' :=
  certpathref01_Short.calls A c [⟨#[73]⟩, s] _ W hR hc (ref_short _ (by rw [two_len]; show 1 + _ ≤ _; omega))
theorem rpar_any (id : ByteArray) (l i : Int) (a b : ByteArray) (h1 : id.size ≤ 1000) (h2 : a.size ≤ 1000) (h3 : b.size ≤ 1000) (A : Option Addr) (c : Nat) (hc : 6 ≤ c) (W : World) (hR : Kd.C Kd.string W A 6 [⟨#[78]⟩, id, b1 l, b4 i, a, b]) :
    Calls Try.prog 65 #[.slice A 6 c] W fun e w' => e = .returned (.string (par id l i a b)) ∧ Below W.heap.size W w' :=
  certpathref01_Short.calls A c [⟨#[78]⟩, id, b1 l, b4 i, a, b] _ W hR hc (ref_short _ (by rw [five_len, b1_size, b4_size]; show 1 + _ + _ + _ + _ + _ ≤ _; omega))
theorem size_rtree : (Try.prog.info? 63).map (·.size) = some 3 := by kernel_rfl
theorem rgen_size (w : World) (s : ByteArray) (h : Int) (hs : s.size ≠ 32) :
    Calls Try.prog 46 #[.string s, .int .i64 h] w fun e w' => e = .returned (.tuple #[.agg #[.string ⟨#[]⟩, .string ⟨#[]⟩, .slice none 0 0], .int .i64 18]) ∧ Below w.heap.size w w' := by
  have hne : ((s.size : Int) != 32) = true := by simp; omega
  have hB := below_alloc (Below.refl w.heap.size w) (.cells #[.string ⟨#[]⟩, .string ⟨#[]⟩, .slice none 0 0] 63)
  go_enter Try.func46, Try.ntmps46
  go_wp2
  exact bodyPost_ret (v := .tuple #[.agg #[.string ⟨#[]⟩, .string ⟨#[]⟩, .slice none 0 0], .int .i64 18]) (by simp [results, Try.results46, go_sem]) rfl ⟨rfl, hB⟩
theorem rgen_height (w : World) (s : ByteArray) (h : Int) (hs : s.size = 32) (hh : h < 0 ∨ 8 < h) :
    Calls Try.prog 46 #[.string s, .int .i64 h] w fun e w' => e = .returned (.tuple #[.agg #[.string ⟨#[]⟩, .string ⟨#[]⟩, .slice none 0 0], .int .i64 1]) ∧ Below w.heap.size w w' := by
  have hne : ((s.size : Int) != 32) = false := by simp; omega
  have hB := below_alloc (Below.refl w.heap.size w) (.cells #[.string ⟨#[]⟩, .string ⟨#[]⟩, .slice none 0 0] 63)
  rcases hh with h0 | h0
  all_goals
    go_enter Try.func46, Try.ntmps46
    go_wp2
    exact bodyPost_ret (v := .tuple #[.agg #[.string ⟨#[]⟩, .string ⟨#[]⟩, .slice none 0 0], .int .i64 1]) (by simp [results, Try.results46, go_sem]) rfl ⟨rfl, hB⟩
end Go.Proofs.Ytilehfdplgciiaa.Hand
