import Derived.Test.YtilehfdplgciiaaProg
import Derived.Test.YtilehfdplgciiaaStrm
import Derived.Test.YtilehfdplgciiaaHash0
import Derived.Test.YtilehfdplgciiaaHash1
import Derived.Test.YtilehfdplgciiaaWrite
import Derived.Test.YtilehfdplgciiaaSum
import Derived.WalkKit
import Derived.KernelRfl
import Derived.Outline
import Derived.Lib.Hide
import Derived.Deep.DeepCutAuto
/-! hash.Start and hash.Sum: the digest of a list of strings. -/
namespace Go.Proofs.Ytilehfdplgciiaa.Hand
open Go.RowKit Go.Proofs.YtilehfdplgciiaaW.PrintWords
set_option linter.unusedVariables false

def zero8 : List Int := [0, 0, 0, 0, 0, 0, 0, 0]
theorem start_any (w : World) :
    Calls Try.prog 91 #[] w fun e w' => e = .returned (.pointer (some ⟨w.heap.size, 0, none⟩)) ∧
      Strm 118 5 w.heap.size w' w.heap.size zero8 [] 0 ∧ Below w.heap.size w w' := by
  go_enter Try.func91, Try.ntmps91
  go_wp2
  go_ret
  exact ⟨rfl, ⟨_, heap_alloc_new w (.cells (strm zero8 (.slice none 0 0) 0) _), rfl, Nat.le_refl _, own_nil _ _ _ _⟩, below_alloc (Below.refl _ _) _⟩

/-- What a list of strings spells, put together. -/
def cat (l : List ByteArray) : List Int := (l.map bytesOf).flatten
theorem cat_step (l : List ByteArray) (k : Nat) (hk : k < l.length) (d : ByteArray) : cat (l.take k) ++ bytesOf (rdOf d l (k : Int)) = cat (l.take (k + 1)) := by
  unfold cat rdOf
  rw [List.take_succ_eq_append_getElem hk, List.map_append, List.flatten_append]
  simp [List.getD_eq_getElem?_getD, hk]
theorem cat_take_le (l : List ByteArray) (k : Nat) : (cat (l.take k)).length ≤ (cat l).length := by
  have : cat l = cat (l.take k) ++ cat (l.drop k) := by
    unfold cat
    rw [← List.flatten_append, ← List.map_append, List.take_append_drop]
  rw [this, List.length_append]
  omega
theorem comp_mod (h all : List Int) : (comp h all).2.length % 64 = all.length % 64 := by
  induction hn : all.length using Nat.strongRecOn generalizing h all with
  | _ n ih =>
    by_cases h64 : 64 ≤ all.length
    · rw [comp_more _ _ h64, ih (all.drop 64).length (by rw [List.length_drop]; omega) _ _ rfl, List.length_drop]
      omega
    · rw [comp_done _ _ (by omega), ← hn]

/-- Whatever is written: the stream's state goes on. -/
theorem write_ok (B g : Nat) (hs rest m : List Int) (b : ByteArray) (w : World) (hI : Strm 118 5 B w g hs rest m.length) (hok : StOk hs rest m) (hsz : m.length + b.size ≤ 1099511627776) :
    Calls Try.prog 92 #[.pointer (some ⟨g, 0, none⟩), .string b] w fun e w' => e = .returned (.tuple #[]) ∧ (∃ hs' rest', 
      Strm 118 5 B w' g hs' rest' (m ++ bytesOf b).length ∧ StOk hs' rest' (m ++ bytesOf b)) ∧ Below B w w' := by
  by_cases hb : 0 < b.size
  · have hbn : bytesOf b ≠ [] := by
      intro e
      have := bytesOf_length b
      rw [e] at this
      simp at this
      omega
    have hrl : rest.length ≤ 64 := by
      by_cases hm : m = []
      · rw [hok.2.1 hm]; exact Nat.zero_le _
      · have := comp_rest IV m
        rw [hok.2.2 hm] at this
        exact Nat.le_of_lt this
    refine (write_some B g hs rest (if m.length = 0 then IV else hs) m.length b _ w hb (Lib.hid rfl) (Lib.hid rfl) hI hsz hrl).mono ?_
    rintro e w' ⟨he, hS, hB⟩
    refine ⟨he, ⟨_, _, by rw [List.length_append, bytesOf_length]; exact hS, ?_⟩, hB⟩
    by_cases hm : m = []
    · subst hm
      exact StOk.write_first hok hbn rfl
    · have hl : m.length ≠ 0 := fun e => hm (List.eq_nil_of_length_eq_zero e)
      rw [if_neg hl]
      exact StOk.write hok hm rfl
  · have hbe : bytesOf b = [] := List.eq_nil_of_length_eq_zero (by rw [bytesOf_length]; omega)
    have hbl : b.toList = [] := by
      apply List.eq_nil_of_length_eq_zero
      rw [ByteArray.toList_eq, data_length]
      omega
    refine (write_none B g hs rest m.length b w hbl).mono ?_
    rintro e w' ⟨he, rfl⟩
    rw [hbe, List.append_nil]
    exact ⟨he, ⟨_, _, hI, hok⟩, Below.refl _ _⟩
theorem sum_ok (B g : Nat) (hs rest m : List Int) (w : World) (hI : Strm 118 5 B w g hs rest m.length) (hok : StOk hs rest m) (hsz : m.length ≤ 1099511627776) :
    Calls Try.prog 93 #[.pointer (some ⟨g, 0, none⟩)] w fun e w' => e = .returned (.string (strOfNums (sha m))) ∧ Below w.heap.size w w' := by
  have hrl : rest.length < 64 ∧ rest.length % 64 = m.length % 64 := by
    by_cases hm : m = []
    · rw [hok.2.1 hm, hm]; simp
    · have h1 := comp_rest IV m
      have h2 := comp_mod IV m
      rw [hok.2.2 hm] at h1 h2
      exact ⟨h1, h2⟩
  by_cases hm : m = []
  · subst hm
    obtain rfl := hok.2.1 rfl
    exact sum_any B g hs [] IV [] 0 w hI hsz (by decide) (by decide) (fun _ => ⟨rfl, rfl⟩) (fun e => absurd rfl e) _ (Lib.hid rfl)
  · have hl : m.length ≠ 0 := fun e => hm (List.eq_nil_of_length_eq_zero e)
    refine (sum_any B g hs rest hs rest m.length w hI hsz hrl.1 hrl.2 (fun e => absurd e hl) (fun _ => ⟨rfl, rfl⟩) (comp hs (rest ++ pad m.length)) (Lib.hid rfl)).mono ?_
    rintro e w' ⟨rfl, hB⟩
    refine ⟨?_, hB⟩
    unfold sha
    rw [comp_append IV m (pad m.length), hok.2.2 hm]

def hash_Sum.f (l : List ByteArray) : Option ByteArray := if (cat l).length ≤ 1099511627776 then some (strOfNums (sha (cat l))) else none
theorem hash_Sum.calls (A0 : Option Addr) (c0 : Nat) (l0 : List ByteArray) (r : ByteArray) (w : World) (hr0 : Kd.C Kd.string w A0 l0.length l0) (hc0 : l0.length ≤ c0) (h : hash_Sum.f l0 = some r) :
    Calls Try.prog 89 #[.slice A0 l0.length c0] w fun e w' => e = .returned (.string r) ∧ Below w.heap.size w w' := by
  unfold hash_Sum.f at h
  split at h
  case isFalse => cases h
  rename_i hcl
  obtain rfl := Option.some.inj h
  clear h
  have hR : ReadsOf Value.string ByteArray.empty w A0 l0.length l0 := Kd.reads_of_C hr0
  have HR := Lib.hid hR
  clear hR hr0
  obtain ⟨z, hz⟩ : ∃ z, Hid (z = sha (cat l0)) := ⟨_, Lib.hid rfl⟩
  rw [← hz.out]
  go_enter Try.func89, Try.ntmps89
  go_upto_block 0 with (refine (start_any _).mono ?_; rintro e w1 ⟨rfl, hS, hB⟩)
  go_cut [] (fun w' => ∃ hs rest : List Int, Strm 118 5 w.heap.size w' w.heap.size hs rest (cat l0).length ∧ StOk hs rest (cat l0) ∧ Below w.heap.size w w')
  case first =>
    go_wp2
    go_loopw [5, 9] (fun _ i wr => ∃ (k : Nat) (hs rest : List Int), k ≤ l0.length ∧ i = .int .i64 k ∧ Strm 118 5 w.heap.size wr w.heap.size hs rest (cat (l0.take k)).length ∧ StOk hs rest (cat (l0.take k)) ∧ Below w.heap.size w wr)
      (fun _ i _ => (l0.length - intOf i).toNat)
    case atStart => exact ⟨0, zero8, [], Nat.zero_le _, rfl, hS, StOk.start _ rfl, hB⟩
    case round =>
      clear hS hB
      obtain ⟨k, hs, rest, hk, rfl, hS, hok, hB⟩ := hrel
      have hll := HR.out.2.1
      by_cases hlt : k < l0.length
      · obtain ⟨ad, rfl, hc⟩ := HR.out.at_ (k : Int) (by omega) (by omega)
        replace hc := pw_cell_below hB hc
        have hst := cat_step l0 k hlt ByteArray.empty
        have hle := cat_take_le l0 (k + 1)
        rw [← hst, List.length_append, bytesOf_length] at hle
        generalize rdOf ByteArray.empty l0 (k : Int) = b at *
        have q0 : (k : Int) < l0.length := by omega
        rw [Int.toNat_natCast] at hc
        go_wp2_with (refine (write_ok _ _ _ _ _ b _ hS hok (by omega)).mono ?_; rintro e w2 ⟨rfl, ⟨hs2, rest2, hS2, hok2⟩, hB2⟩; rw [hst] at hS2 hok2)
        go_roundw
        case rel => exact ⟨k + 1, hs2, rest2, by omega, by go_num, hS2, hok2, hB.trans hB2⟩
        case measure => simp [intOf]; omega
      · have hk2 : k = l0.length := by omega
        subst hk2
        rw [List.take_length] at hS hok
        go_wp2
        go_meet
        case rel => exact ⟨hs, rest, hS, hok, hB⟩
  case rest =>
    clear hS hB
    obtain ⟨hs, rest, hS, hok, hB⟩ := hcut
    go_wp2_with (refine (sum_ok _ _ _ _ _ _ hS hok hcl).mono ?_; rintro e w2 ⟨rfl, hB2⟩)
    go_ret
    exact ⟨by rw [hz.out]; rfl, hB.trans (hB2.mono hB.size)⟩
end Go.Proofs.Ytilehfdplgciiaa.Hand
