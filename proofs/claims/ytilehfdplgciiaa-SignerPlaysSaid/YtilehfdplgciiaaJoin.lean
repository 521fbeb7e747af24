import Derived.Test.YtilehfdplgciiaaProg
import Derived.Test.YtilehfdplgciiaaHSum
import Derived.Test.YtilehfdplgciiaaRefSum
import Derived.Test.YtilehfdplgciiaaDig
import Derived.Lib.BufferWrite
import Derived.Laws.CopyOwn
/-! ots.join: sixteen bytes each, put together. -/
namespace Go.Proofs.Ytilehfdplgciiaa.Hand
open Go.RowKit Go.Proofs.YtilehfdplgciiaaW.PrintWords
set_option linter.unusedVariables false

def all16 : List ByteArray → Bool
  | [] => true
  | s :: t => s.size == 16 && all16 t
theorem all16_get : ∀ (l : List ByteArray), all16 l = true → ∀ j : Nat, j < l.length → (rdOf ByteArray.empty l (j : Int)).size = 16
  | [], _, j, hj => absurd hj (Nat.not_lt_zero _)
  | s :: t, h, 0, _ => by simp [all16] at h; simpa [rdOf] using h.1
  | s :: t, h, j + 1, hj => by
    simp [all16] at h
    have := all16_get t h.2 j (by simpa using hj)
    simpa [rdOf] using this
theorem all16_len (l : List ByteArray) (h : all16 l = true) (k : Nat) (hk : k ≤ l.length) : (cat (l.take k)).length = 16 * k := by
  induction k with
  | zero => simp [cat]
  | succ k ih =>
    rw [← cat_step l k (by omega) ByteArray.empty, List.length_append, bytesOf_length, ih (by omega), all16_get l h k (by omega)]
    omega
theorem made_zeros (m : Nat) : madeCells #[.int .u8 0] m = (nums .u8 (List.replicate m 0)).toArray := by
  apply Array.ext
  · simp [nums, madeCells]
  · intro i h1 h2
    simp [nums, madeCells, Nat.mod_one]
theorem join_row (xs : List Int) (s : ByteArray) (k L : Nat) (h1 : xs.length = 16 * k) (h2 : s.size = 16) (h3 : 16 * (k + 1) ≤ L) :
    ((nums .u8 (xs ++ List.replicate (L - 16 * k) 0)).toArray.toList.take (k * 16) ++ Lib.byteCells s.data.toList ++ (nums .u8 (xs ++ List.replicate (L - 16 * k) 0)).toArray.toList.drop (k * 16 + s.size)).toArray = (nums .u8 (xs ++ bytesOf s ++ List.replicate (L - 16 * (k + 1)) 0)).toArray := by
  have e1 : Lib.byteCells s.data.toList = nums .u8 (bytesOf s) := by simp [Lib.byteCells, nums, bytesOf]
  rw [e1, h2]
  congr 1
  have l1 : (nums .u8 xs).length = k * 16 := by rw [nums_length]; omega
  show (nums .u8 (xs ++ List.replicate (L - 16 * k) 0)).take (k * 16) ++ _ ++ (nums .u8 (xs ++ List.replicate (L - 16 * k) 0)).drop (k * 16 + 16) = _
  rw [nums_append, nums_append, nums_append, ← l1, List.take_left, ← List.drop_drop, List.drop_left]
  congr 1
  simp only [nums, ← List.map_drop, List.drop_replicate]
  congr 2
def ots_join.f (l : List ByteArray) : Option ByteArray := if all16 l = true ∧ l.length ≤ 1048576 then some (strOfNums (cat l)) else none
set_option maxHeartbeats 400000 in
set_option maxRecDepth 100000 in
theorem ots_join.calls (A0 : Option Addr) (c0 : Nat) (l0 : List ByteArray) (r : ByteArray) (w : World) (hr0 : Kd.C Kd.string w A0 l0.length l0) (hc0 : l0.length ≤ c0) (h : ots_join.f l0 = some r) :
    Calls Try.prog 76 #[.slice A0 l0.length c0] w fun e w' => e = .returned (.string r) ∧ Below w.heap.size w w' := by
  unfold ots_join.f at h
  split at h
  case isFalse => cases h
  rename_i hcl
  obtain ⟨h16, hln⟩ := hcl
  obtain rfl := Option.some.inj h
  clear h
  have hR : ReadsOf Value.string ByteArray.empty w A0 l0.length l0 := Kd.reads_of_C hr0
  have HR := Lib.hid hR
  have H16 := Lib.hid h16
  clear hR hr0 h16
  have hmk : ∀ W : World, (Instr.makeSlice 24 (.int .i64 ((l0.length : Int) * 16)) (.int .i64 ((l0.length : Int) * 16))).run Try.prog W = .ok (.slice (some ⟨W.heap.size, 0, none⟩) (l0.length * 16) (l0.length * 16)) (W.alloc (.cells (madeCells #[.int .u8 0] (l0.length * 16)) 5)) := fun W => by
    have h := print_make (P := Try.prog) 24 5 .u8 1 Try.underlying24 (by kernel_rfl) (by decide) (l0.length * 16) (by omega) W
    rw [show ((l0.length * 16 : Nat) : Int) = (l0.length : Int) * 16 by omega] at h
    exact h
  go_enter Try.func76, Try.ntmps76
  go_upto_block 0 with fail
  have hB := below_alloc (Below.refl w.heap.size w) (.cells (madeCells #[.int .u8 0] (l0.length * 16)) 5)
  have hG : (w.alloc (.cells (madeCells #[.int .u8 0] (l0.length * 16)) 5)).heap[w.heap.size]? = some (.cells (nums .u8 (cat (l0.take 0) ++ List.replicate (l0.length * 16 - 16 * 0) 0)).toArray 5 (0, 0)) := by
    rw [heap_alloc_new]
    congr 2
    rw [show cat (l0.take 0) = [] from rfl, List.nil_append, show l0.length * 16 - 16 * 0 = l0.length * 16 by omega]
    exact made_zeros _
  generalize w.alloc (.cells (madeCells #[.int .u8 0] (l0.length * 16)) 5) = w1 at hB hG ⊢
  clear hmk
  go_cut [] (fun w' => w'.heap[w.heap.size]? = some (.cells (nums .u8 (cat l0)).toArray 5 (0, 0)) ∧ Below w.heap.size w w')
  case first =>
    go_wp2
    go_loopw [4, 5, 12] (fun _ _ i wr => ∃ (k : Nat), k ≤ l0.length ∧ i = .int .i64 k ∧ wr.heap[w.heap.size]? = some (.cells (nums .u8 (cat (l0.take k) ++ List.replicate (l0.length * 16 - 16 * k) 0)).toArray 5 (0, 0)) ∧ Below w.heap.size w wr)
      (fun _ _ i _ => (l0.length - intOf i).toNat)
    case atStart => exact ⟨0, Nat.zero_le _, rfl, hG, hB⟩
    case round =>
      clear hG hB
      obtain ⟨k, hk, rfl, hG, hB⟩ := hrel
      have hll := HR.out.2.1
      by_cases hlt : k < l0.length
      · obtain ⟨ad, rfl, hc⟩ := HR.out.at_ (k : Int) (by omega) (by omega)
        replace hc := pw_cell_below hB hc
        have hst := cat_step l0 k hlt ByteArray.empty
        have hcl := all16_len l0 H16.out k hk
        have h16 := all16_get l0 H16.out k hlt
        generalize rdOf ByteArray.empty l0 (k : Int) = s at *
        have q0 : (k : Int) < l0.length := by omega
        rw [Int.toNat_natCast] at hc
        have hcp := Lib.run_copy_row_string (P := Try.prog) wr 24 9 3 5 w.heap.size (k * 16) (l0.length * 16 - k * 16) (l0.length * 16 - k * 16) s _ _ Try.underlying24 (by kernel_rfl) hG (by omega) (by simp [nums, hcl]; omega)
        rw [join_row (cat (l0.take k)) s k (l0.length * 16) hcl h16 (by omega), hst] at hcp
        have hG2 := setRow_heap wr w.heap.size _ (nums .u8 (cat (l0.take (k + 1)) ++ List.replicate (l0.length * 16 - 16 * (k + 1)) 0)).toArray _ _ hG
        have hB2 := Go.below_setRow hB (Nat.le_refl _) (nums .u8 (cat (l0.take (k + 1)) ++ List.replicate (l0.length * 16 - 16 * (k + 1)) 0)).toArray
        generalize wr.setRow w.heap.size (nums .u8 (cat (l0.take (k + 1)) ++ List.replicate (l0.length * 16 - 16 * (k + 1)) 0)).toArray = w2 at hcp hG2 hB2
        go_wp2
        go_roundw
        case rel => exact ⟨k + 1, by omega, by go_num, hG2, hB2⟩
        case measure => simp [intOf]; omega
      · have hk2 : k = l0.length := by omega
        subst hk2
        rw [List.take_length, show l0.length * 16 - 16 * l0.length = 0 by omega, List.replicate_zero, List.append_nil] at hG
        go_wp2
        go_meet
        case rel => exact ⟨hG, hB⟩
  case rest =>
    clear hG hB
    obtain ⟨hG, hB⟩ := hcut
    have hlen := all16_len l0 H16.out l0.length (Nat.le_refl _)
    rw [List.take_length] at hlen
    have hO := Kd.own_of_R (own_at (xs := cat l0) (cap := l0.length * 16) (Nat.le_refl _) hG (by omega) (by simp [maxLen]; omega))
    have hcv := own_string (P := Try.prog) Try.underlying24 Try.underlying5 Try.underlying9 hO
    rw [show (cat l0).length = l0.length * 16 by omega] at hcv
    go_wp2
    go_ret
    exact ⟨rfl, hB⟩
end Go.Proofs.Ytilehfdplgciiaa.Hand
