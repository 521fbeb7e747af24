import Derived.Test.YtilehfdplgciiaaRound
import Derived.Test.YtilehfdplgciiaaMem
namespace Go.Proofs.Ytilehfdplgciiaa.Hand
open Go.RowKit Go.Proofs.YtilehfdplgciiaaW.PrintWords
set_option linter.unusedVariables false

theorem certpathref01_round.calls (A0 : Option Addr) (c0 : Nat) (l0 : List Int) (a1 : ByteArray) (r : List Int) (w : World) (hr0 : Kd.C (Kd.int .u32) w A0 l0.length l0) (hc0 : l0.length ≤ c0) (h : certpathref01_round.f l0 a1 = some r) :
    Calls Try.prog 86 #[.slice A0 l0.length c0, .string a1] w fun e w' => ∃ v0_ : Value, e = .returned v0_ ∧ Kd.R (Kd.int .u32) 108 w' w.heap.size (fun _ => True) v0_ r ∧ Below w.heap.size w w' := by
  unfold certpathref01_round.f at h
  split at h
  · rename_i hc
    obtain ⟨hl, hs⟩ := hc
    obtain rfl := Option.some.inj h
    have hR : ReadsInt w .u32 A0 l0.length l0 := Kd.reads_of_C (enc := Value.int .u32) (d := (0 : Int)) (h1 := fun _ => rfl) hr0
    obtain ⟨ab, off, rfl, hlt, hcell⟩ := reads_plain hR (by omega)
    obtain ⟨x0, x1, x2, x3, x4, x5, x6, x7, rfl⟩ := list8 l0 hl
    refine (round_any x0 x1 x2 x3 x4 x5 x6 x7 a1 ab off c0 w hs hcell hlt).mono ?_
    rintro e w' ⟨g, rfl, hg, hge, hb⟩
    have hlen := blockF_len [x0, x1, x2, x3, x4, x5, x6, x7] (bytesOf a1) rfl
    have hown := own_at (xs := blockF [x0, x1, x2, x3, x4, x5, x6, x7] (bytesOf a1)) (cap := 8) hge hg hlen (by unfold maxLen; omega)
    rw [hlen] at hown
    exact ⟨_, rfl, hown, hb⟩
  · cases h
end Go.Proofs.Ytilehfdplgciiaa.Hand
