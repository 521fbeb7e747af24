import Derived.Test.YtilehfdplgciiaaMem
import Derived.Test.YtilehfdplgciiaaSha2
import Derived.Deep.MidRow
import Derived.Lib.Hide
/-! A hash.Stream in memory: ten cells. -/
namespace Go.Proofs.Ytilehfdplgciiaa.Hand
open Go.RowKit Go.Proofs.YtilehfdplgciiaaW.PrintWords
set_option linter.unusedVariables false

def u32s (hs : List Int) : List Value := hs.map (Value.int .u32)
def strm (hs : List Int) (v : Value) (n : Int) : Array Value := (u32s hs ++ [v, .int .i64 n]).toArray
theorem strm_get (hs : List Int) (v : Value) (n : Int) (j : Nat) : (strm hs v n)[j]? = (u32s hs ++ [v, .int .i64 n])[j]? := by unfold strm; rw [List.getElem?_toArray]
section
variable {w : World} {g t : Nat} {hs hs' : List Int} {v : Value} {n : Int}
theorem strm_rest (h : w.heap[g]? = some (.cells (strm hs v n) t (0, 0))) (h8 : hs.length = 8) : w.cell? ⟨g, 8, none⟩ = some v := by
  rw [blk_cell h]
  rw [strm_get]
  rw [List.getElem?_append_right (by simp [u32s, h8])]
  simp [u32s, h8]
theorem strm_n (h : w.heap[g]? = some (.cells (strm hs v n) t (0, 0))) (h8 : hs.length = 8) : w.cell? ⟨g, 9, none⟩ = some (.int .i64 n) := by
  rw [blk_cell h]
  rw [strm_get]
  rw [List.getElem?_append_right (by simp [u32s, h8])]
  simp [u32s, h8]
theorem strm_range (h : w.heap[g]? = some (.cells (strm hs v n) t (0, 0))) : w.rangeAt g 0 (u32s hs) := by
  intro j x hj
  rw [Nat.zero_add, blk_cell h]
  rw [strm_get]
  rw [List.getElem?_append_left (List.getElem?_eq_some_iff.1 hj).1]
  exact hj
theorem strm_there (h : w.heap[g]? = some (.cells (strm hs v n) t (0, 0))) (h8 : hs.length = 8) : w.there g 0 8 := by
  intro j hj
  refine ⟨?_, ?_⟩
  · rw [Nat.zero_add, blk_cell h]
    rw [strm_get]
    rw [List.getElem?_append_left (by simp [u32s, h8]; omega)]
    simp [u32s, h8, hj]
  · rw [Nat.zero_add]
    exact blk_frozen h j
theorem strm_setN (h : w.heap[g]? = some (.cells (strm hs v n) t (0, 0))) (h8 : hs.length = 8) (m : Int) : (w.setCell ⟨g, 9, none⟩ (.int .i64 m)).heap[g]? = some (.cells (strm hs v m) t (0, 0)) := by
  refine blk_put h 9 _ ?_
  have e : ((u32s hs ++ [v, .int .i64 n]).set 9 (.int .i64 m)) = u32s hs ++ [v, .int .i64 m] := by
    rw [List.set_append_right _ _ (by simp [u32s, h8])]
    simp [u32s, h8]
  unfold strm
  rw [← e]
  simp
theorem strm_setRest (h : w.heap[g]? = some (.cells (strm hs v n) t (0, 0))) (h8 : hs.length = 8) (u : Value) : (w.setCell ⟨g, 8, none⟩ u).heap[g]? = some (.cells (strm hs u n) t (0, 0)) := by
  refine blk_put h 8 _ ?_
  have e : ((u32s hs ++ [v, .int .i64 n]).set 8 u) = u32s hs ++ [u, .int .i64 n] := by
    rw [List.set_append_right _ _ (by simp [u32s, h8])]
    simp [u32s, h8]
  unfold strm
  rw [← e]
  simp
theorem strm_setH (h : w.heap[g]? = some (.cells (strm hs v n) t (0, 0))) (h8 : hs.length = 8) (h8' : hs'.length = 8) : (w.setCells g 0 (u32s hs')).heap[g]? = some (.cells (strm hs' v n) t (0, 0)) := by
  obtain ⟨cur', h1, h2, h3⟩ := setCells_row (u32s hs') 0 w (strm hs v n) h (by simp [strm, u32s, h8, h8'])
  rw [h1]
  have e : cur' = strm hs' v n := by
    apply Array.ext'
    rw [h3]
    show [] ++ u32s hs' ++ (u32s hs ++ [v, .int .i64 n]).drop (0 + (u32s hs').length) = u32s hs' ++ [v, .int .i64 n]
    rw [List.nil_append, Nat.zero_add, show (u32s hs').length = (u32s hs).length by simp [u32s, h8, h8'], List.drop_left]
  rw [e]
end
theorem below_cells {B g : Nat} {w0 w : World} (h : Below B w0 w) (hg : B ≤ g) (vs : List Value) (o : Nat) : Below B w0 (w.setCells g o vs) := by
  obtain ⟨h1, h2, h3, h4⟩ := setCells_same g vs o w
  exact h.trans ⟨h1, h2, h3, by omega, fun i hi => setCells_far vs o i (by omega)⟩
/-- A stream at block g: its state, the bytes of a block that isn't complete (a row of one's own), all bytes. -/
def Strm (t e : Nat) (B : Nat) (w : World) (g : Nat) (hs rest : List Int) (n : Nat) : Prop :=
  ∃ v, w.heap[g]? = some (.cells (strm hs v n) t (0, 0)) ∧ hs.length = 8 ∧ B ≤ g ∧ w.ownsRow B e 1 v rest.length (nums .u8 rest)
theorem own_apart {w : World} {B e size n g t : Nat} {v : Value} {xs : List Value} {cs : Array Value} (hO : w.ownsRow B e size v n xs) (hS : w.heap[g]? = some (.cells cs t (0, 0))) (hne : e ≠ t) : ∀ k, v.ownBlock = some k → k ≠ g := by
  intro k hk e1
  subst e1
  obtain ⟨cells, hc⟩ := own_typed hO _ hk
  rw [hS] at hc
  injection hc with hc
  injection hc with _ ht
  exact hne ht.symm
theorem own_cells {w : World} {B e size n g t : Nat} {v : Value} {xs : List Value} {cs : Array Value} (hO : w.ownsRow B e size v n xs) (hS : w.heap[g]? = some (.cells cs t (0, 0))) (hne : e ≠ t) (vs : List Value) (o : Nat) : (w.setCells g o vs).ownsRow B e size v n xs :=
  own_move hO fun k hk => setCells_far vs o k (own_apart hO hS hne k hk)
theorem own_cell {w : World} {B e size n g t : Nat} {v : Value} {xs : List Value} {cs : Array Value} (hO : w.ownsRow B e size v n xs) (hS : w.heap[g]? = some (.cells cs t (0, 0))) (hne : e ≠ t) (u : Value) (i : Nat) : (w.setCell ⟨g, i, none⟩ u).ownsRow B e size v n xs :=
  own_move hO fun k hk => Below.heap_setCell w ⟨g, i, none⟩ u k (own_apart hO hS hne k hk)
theorem strm_cell {w : World} {g t : Nat} {hs : List Int} {v : Value} {n : Int} (h : w.heap[g]? = some (.cells (strm hs v n) t (0, 0))) (j : Nat) (hj : j < hs.length) : w.cell? ⟨g, j, none⟩ = some (.int .u32 (rd hs j)) := by
  rw [blk_cell h, strm_get, List.getElem?_append_left (by simpa [u32s] using hj)]
  simp [u32s, rd, hj]
theorem block_lit {P : Program} {f : FuncId} {args : Array Value} {w : World} {l : List Int} (hl : l.length = 8) (h : Calls P f args w fun e w' => e = .returned (.agg (ws l)) ∧ Below w.heap.size w w') :
    Calls P f args w fun e w' => ∃ y0 y1 y2 y3 y4 y5 y6 y7 : Int, e = .returned (.agg #[.int .u32 y0, .int .u32 y1, .int .u32 y2, .int .u32 y3, .int .u32 y4, .int .u32 y5, .int .u32 y6, .int .u32 y7]) ∧ Hid (l = [y0, y1, y2, y3, y4, y5, y6, y7]) ∧ Below w.heap.size w w' := by
  obtain ⟨y0, y1, y2, y3, y4, y5, y6, y7, hy⟩ := list8 l hl
  refine h.mono fun e w' ⟨he, hb⟩ => ⟨y0, y1, y2, y3, y4, y5, y6, y7, ?_, Lib.hid hy, hb⟩
  rw [he, hy]
  rfl
theorem setCells8 (w : World) (g : Nat) (y0 y1 y2 y3 y4 y5 y6 y7 : Int) : ((((((((w.setCell ⟨g, 0, none⟩ (.int .u32 y0)).setCell ⟨g, 1, none⟩ (.int .u32 y1)).setCell ⟨g, 2, none⟩ (.int .u32 y2)).setCell ⟨g, 3, none⟩ (.int .u32 y3)).setCell ⟨g, 4, none⟩ (.int .u32 y4)).setCell ⟨g, 5, none⟩ (.int .u32 y5)).setCell ⟨g, 6, none⟩ (.int .u32 y6)).setCell ⟨g, 7, none⟩ (.int .u32 y7)) = w.setCells g 0 (u32s [y0, y1, y2, y3, y4, y5, y6, y7]) := rfl
theorem reads_far {w w1 : World} {k : IntKind} {A : Option Addr} {n : Nat} {xs : List Int} (h : ReadsInt w k A n xs) {g : Nat} (hA : ∀ ad, A = some ad → 0 < n → ad.block ≠ g) (hw : ∀ i, i ≠ g → w1.heap[i]? = w.heap[i]?) : ReadsInt w1 k A n xs := by
  refine ⟨h.1, h.2.1, fun hn => ?_⟩
  obtain ⟨ad, e, hc⟩ := h.2.2 hn
  refine ⟨ad, e, fun j hj => ?_⟩
  have hb : (ad.add j).block = ad.block := by unfold Addr.add; split <;> rfl
  rw [World.cell?_of_block (w := w) (by rw [hb]; exact hw _ (hA ad e hn))]
  exact hc j hj
theorem reads_cells {w : World} {k : IntKind} {A : Option Addr} {n : Nat} {xs : List Int} (h : ReadsInt w k A n xs) {g : Nat} (hA : ∀ ad, A = some ad → 0 < n → ad.block ≠ g) (vs : List Value) (o : Nat) : ReadsInt (w.setCells g o vs) k A n xs :=
  reads_far h hA fun i hi => setCells_far vs o i hi
/-- 'xs[m:]' of a slice that is read: where it lies. -/
theorem cut_block {P : Program} (t e : TypeId) (kl : IntKind) {i : TypeInfo} (ht : P.underlying t = some (.slice e)) (hi : P.info? e = some i) (hsz : i.size = 1) (A : Option Addr) (n c m : Nat) (hm : m ≤ n) :
    ∃ A' : Option Addr, (∀ W : World, (Instr.slice t (.slice A n c) (some (.int kl (m : Int))) none none).run P W = .ok (.slice A' (n - m) (c - m)) W) ∧
      (∀ (w : World) (k : IntKind) (xs : List Int), n ≤ c → ReadsInt w k A n xs → ReadsInt w k A' (n - m) (xs.drop m)) ∧ (∀ ad, A' = some ad → ∃ ad0, A = some ad0 ∧ ad.block = ad0.block) := by
  refine ⟨if c = m then A else A.map (·.add m), fun W => ?_, fun w k xs hc h => h.drop_ m hm hc, fun ad h => ?_⟩
  · have hel : P.elem t = e := by simp [Program.elem, ht]
    have hu : P.underlying t = some (.slice (P.elem t)) := by rw [hel]; exact ht
    rw [run_slice_l W t A n c hu kl (m : Int) (Int.natCast_nonneg _) (by omega), hel]
    simp [sizeOf, typeInfo, hi, hsz, sliced, Result.andThen]
  · split at h
    · exact ⟨ad, h, rfl⟩
    · obtain ⟨a0, h0, rfl⟩ := Option.map_eq_some_iff.1 h
      exact ⟨a0, h0, by unfold Addr.add; split <;> rfl⟩
theorem reads_lt {w : World} {k : IntKind} {A : Option Addr} {n : Nat} {xs : List Int} (h : ReadsInt w k A n xs) : ∀ ad, A = some ad → 0 < n → ad.block < w.heap.size := by
  intro ad e hn
  obtain ⟨b, off, e2, hb, _⟩ := reads_plain h hn
  rw [e] at e2
  injection e2 with e2
  subst e2
  exact hb
theorem ws_setCells {w : World} {g t : Nat} {cs : Array Value} {hs' : List Int} (h : w.heap[g]? = some (.cells cs t (0, 0))) (h8 : cs.size = 8) (h8' : hs'.length = 8) : (w.setCells g 0 (u32s hs')).heap[g]? = some (.cells (ws hs') t (0, 0)) := by
  obtain ⟨cur', h1, h2, h3⟩ := setCells_row (u32s hs') 0 w cs h (by simp [u32s, h8, h8'])
  rw [h1]
  have e : cur' = ws hs' := by
    apply Array.ext'
    rw [h3, List.drop_of_length_le (by simp [u32s, h8, h8'])]
    simp [ws, u32s]
  rw [e]
theorem reads_drew {w : World} {k : IntKind} {A : Option Addr} {n : Nat} {xs : List Int} (h : ReadsInt w k A n xs) : ReadsInt w.drew k A n xs := h
end Go.Proofs.Ytilehfdplgciiaa.Hand
