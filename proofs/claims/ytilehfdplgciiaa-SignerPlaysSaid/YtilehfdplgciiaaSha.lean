import Derived.Test.YtilehfdplgciiaaWWords
import Derived.KernelRfl
import Derived.Deep.QuietTactic
import Derived.Deep.WholeRow
/-! SHA-256's compression in plain Lean, in the walk's own spelling: numbers are Int, words are 32 bits. -/
namespace Go.Proofs.Ytilehfdplgciiaa.Hand
open Go.RowKit Go.Proofs.YtilehfdplgciiaaW.PrintWords
set_option linter.unusedVariables false

def rotr (x n : Int) : Int := bits .or .u32 (x / 2 ^ n.toNat) (x * 2 ^ (32 - n).toNat % 4294967296)
/-- Words as cells. -/
def ws (xs : List Int) : Array Value := (xs.map fun x => Value.int .u32 x).toArray
theorem ws_get (xs : List Int) (i : Nat) (h : i < xs.length) : (ws xs)[i]? = some (.int .u32 (rd xs i)) := by
  simp [ws, rd, List.getElem?_eq_getElem h]
theorem ws_set (xs : List Int) (i : Nat) (v : Int) : (ws xs).setIfInBounds i (.int .u32 v) = ws (xs.set i v) := by
  simp [ws, List.map_set]
theorem ws_size (xs : List Int) : (ws xs).size = xs.length := by simp [ws]
theorem ws_one (xs : List Int) : (ws xs).all (·.oneCell') = true := by
  refine Array.all_eq_true_iff_forall_mem.2 fun v hv => ?_
  simp [ws] at hv
  obtain ⟨x, _, rfl⟩ := hv
  rfl
theorem blk_newAt (w : World) (o : Obj) (i : Nat) (h : i = w.heap.size) : (w.alloc o).heap[i]? = some o := by subst h; exact heap_alloc_new _ _
theorem drewN_cell {w w2 : World} {n : Nat} {a : Addr} {v : Option Value} (e : w2 = w.drewN n) (h : w.cell? a = v) : w2.cell? a = v := by subst e; exact h
theorem drewN_heap {w w2 : World} {n i : Nat} {o : Option Obj} (e : w2 = w.drewN n) (h : w.heap[i]? = o) : w2.heap[i]? = o := by subst e; exact h
theorem drewN_below {w w1 w2 : World} {n B : Nat} (e : w2 = w1.drewN n) (h : Below B w w1) : Below B w w2 := by subst e; exact pw_below_drewN h n
theorem setRow_allocAt (w : World) (c c' : Array Value) (t : TypeId) (i : Nat) (h : i = w.heap.size) : (w.alloc (.cells c t)).setRow i c' = w.alloc (.cells c' t) := by subst h; exact World.setRow_alloc_new _ _ _ _
theorem quiet_add_same {P : Program} {f : FuncId} {args : Array Value} {w : World} {a n : Nat} {v : Value}
    (h : Calls P f args (w.drewN (a + n)) fun e w' => e = .returned v ∧ w' = w.drewN (a + n)) :
    Calls P f args (w.drewN (a + n)) fun e w'' => e = .returned v ∧ ∃ m, w'' = w.drewN (a + m) :=
  h.mono fun _ _ ⟨he, hm⟩ => ⟨he, n, hm⟩
theorem blk_row {w : World} {g : Nat} {t : TypeId} {cs : Array Value} (h : w.heap[g]? = some (.cells cs t (0, 0))) (cs' : Array Value) : (w.setRow g cs').heap[g]? = some (.cells cs' t (0, 0)) := setRow_heap w g cs cs' t (0, 0) h
theorem blk_rowFar {w : World} {g k : Nat} {o : Obj} (h : w.heap[k]? = some o) (hne : k ≠ g) (cs' : Array Value) : (w.setRow g cs').heap[k]? = some o := (setRow_other w g k cs' hne).trans h
theorem wpList_store_rowEq {P : Program} {ops : Array Oper} {rest : List Oper} {o : Oper} {a : Act} {w : World} {Q : Exit → Act → World → Prop} (hgd : o.guard = none) (ty : TypeId) (x y : Operand) (ho : o.op = .store ty x y)
    (g : Nat) (cells0 cells : Array Value) (hx : a.eval x = .pointer (some ⟨g, 0, none⟩)) (hy : a.eval y = .agg cells0) (he : cells0 = cells)
    (t : TypeId) (old : Array Value) (hg : w.heap[g]? = some (.cells old t (0, 0))) (hi : (P.info? ty).map (·.size) = some cells.size)
    (hold : old.size = cells.size) (h1 : cells.all (·.oneCell') = true)
    (h : wpList P ops Q rest (a.put o.dst undef) (w.setRow g cells)) : wpList P ops Q (o :: rest) a w := by
  subst he
  exact wpList_store_row hgd ty x y ho g cells0 hx hy t old hg hi hold h1 h
/-- The boxed argument and the result's variable, at blocks B and B + 1. -/
def Hd (t B : Nat) (w : World) (hs : List Int) : Prop := w.heap[B]? = some (.cells (ws hs) t (0, 0)) ∧ w.heap[B + 1]? = some (.cells (ws [0, 0, 0, 0, 0, 0, 0, 0]) t (0, 0))
theorem Hd.far {t B : Nat} {w : World} {hs : List Int} (h : Hd t B w hs) {g i : Nat} (hg : B + 1 < g) (v : Value) : Hd t B (w.setCell ⟨g, i, none⟩ v) hs :=
  ⟨blk_far h.1 (show B ≠ g by omega) _, blk_far h.2 (show B + 1 ≠ g by omega) _⟩
theorem Hd.drew {t B : Nat} {w : World} {hs : List Int} (h : Hd t B w hs) : Hd t B w.drew hs := h
theorem Hd.drewN {t B : Nat} {w : World} {hs : List Int} (h : Hd t B w hs) (n : Nat) : Hd t B (w.drewN n) hs := h
theorem Hd.drewE {t B n : Nat} {w w2 : World} {hs : List Int} (e : w2 = w.drewN n) (h : Hd t B w hs) : Hd t B w2 hs := by subst e; exact h
theorem Hd.row {t B : Nat} {w : World} {hs : List Int} (h : Hd t B w hs) {g : Nat} (hg : B + 1 < g) (cs : Array Value) : Hd t B (w.setRow g cs) hs :=
  ⟨blk_rowFar h.1 (by omega) _, blk_rowFar h.2 (by omega) _⟩
theorem Hd.alloc {t B : Nat} {w : World} {hs : List Int} (h : Hd t B w hs) (o : Obj) : Hd t B (w.alloc o) hs := ⟨blk_alloc h.1 o, blk_alloc h.2 o⟩
theorem Hd.below {t B : Nat} {w w1 : World} {hs : List Int} (h : Hd t B w hs) (hb : Below w.heap.size w w1) : Hd t B w1 hs := ⟨blk_below h.1 hb, blk_below h.2 hb⟩
def zeros64 : List Int := List.replicate 64 0
def word (a b c d : Int) : Int := bits .or .u32 (bits .or .u32 (bits .or .u32 (a % 4294967296 * 16777216 % 4294967296) (b % 4294967296 * 65536 % 4294967296)) (c % 4294967296 * 256 % 4294967296)) (d % 4294967296)
/-- The first loop. -/
def W1 (b : List Int) : Nat → List Int
  | 0 => zeros64
  | i + 1 => (W1 b i).set i (word (rd b (4 * i)) (rd b (4 * i + 1)) (rd b (4 * i + 2)) (rd b (4 * i + 3)))
theorem W1_len (b : List Int) (i : Nat) : (W1 b i).length = 64 := by
  induction i with
  | zero => rfl
  | succ i ih => simp [W1, ih]
def sg0 (x : Int) : Int := bits .xor .u32 (bits .xor .u32 (rotr x 7) (rotr x 18)) (x / 8)
def sg1 (x : Int) : Int := bits .xor .u32 (bits .xor .u32 (rotr x 17) (rotr x 19)) (x / 1024)
/-- The second loop: i is the word's number. -/
def mix (W : List Int) (i : Int) : Int := (rd W (i - 16) + sg0 (rd W (i - 15)) + rd W (i - 7) + sg1 (rd W (i - 2))) % 4294967296
def W2 (b : List Int) : Nat → List Int
  | 0 => W1 b 16
  | i + 1 => (W2 b i).set (16 + i) (mix (W2 b i) (16 + i))
theorem W2_len (b : List Int) (i : Nat) : (W2 b i).length = 64 := by
  induction i with
  | zero => exact W1_len b 16
  | succ i ih => simp [W2, ih]
theorem lit64 : (#[.int .u32 0, .int .u32 0, .int .u32 0, .int .u32 0, .int .u32 0, .int .u32 0, .int .u32 0, .int .u32 0, .int .u32 0, .int .u32 0, .int .u32 0, .int .u32 0, .int .u32 0, .int .u32 0, .int .u32 0, .int .u32 0, .int .u32 0, .int .u32 0, .int .u32 0, .int .u32 0, .int .u32 0, .int .u32 0, .int .u32 0, .int .u32 0, .int .u32 0, .int .u32 0, .int .u32 0, .int .u32 0, .int .u32 0, .int .u32 0, .int .u32 0, .int .u32 0, .int .u32 0, .int .u32 0, .int .u32 0, .int .u32 0, .int .u32 0, .int .u32 0, .int .u32 0, .int .u32 0, .int .u32 0, .int .u32 0, .int .u32 0, .int .u32 0, .int .u32 0, .int .u32 0, .int .u32 0, .int .u32 0, .int .u32 0, .int .u32 0, .int .u32 0, .int .u32 0, .int .u32 0, .int .u32 0, .int .u32 0, .int .u32 0, .int .u32 0, .int .u32 0, .int .u32 0, .int .u32 0, .int .u32 0, .int .u32 0, .int .u32 0, .int .u32 0] : Array Value) = ws zeros64 := by kernel_rfl
def K64 : List Int := [1116352408, 1899447441, 3049323471, 3921009573, 961987163, 1508970993, 2453635748, 2870763221, 3624381080, 310598401, 607225278, 1426881987, 1925078388, 2162078206, 2614888103, 3248222580, 3835390401, 4022224774, 264347078, 604807628, 770255983, 1249150122, 1555081692, 1996064986, 2554220882, 2821834349, 2952996808, 3210313671, 3336571891, 3584528711, 113926993, 338241895, 666307205, 773529912, 1294757372, 1396182291, 1695183700, 1986661051, 2177026350, 2456956037, 2730485921, 2820302411, 3259730800, 3345764771, 3516065817, 3600352804, 4094571909, 275423344, 430227734, 506948616, 659060556, 883997877, 958139571, 1322822218, 1537002063, 1747873779, 1955562222, 2024104815, 2227730452, 2361852424, 2428436474, 2756734187, 3204031479, 3329325298]
def IV : List Int := [1779033703, 3144134277, 1013904242, 2773480762, 1359893119, 2600822924, 528734635, 1541459225]
theorem K64_len : K64.length = 64 := by decide
theorem list8 (l : List Int) (h : l.length = 8) : ∃ a b c d e f g i, l = [a, b, c, d, e, f, g, i] := by
  match l, h with
  | [a, b, c, d, e, f, g, i], _ => exact ⟨a, b, c, d, e, f, g, i, rfl⟩
def S1 (x : Int) : Int := bits .xor .u32 (bits .xor .u32 (rotr x 6) (rotr x 11)) (rotr x 25)
def S0 (x : Int) : Int := bits .xor .u32 (bits .xor .u32 (rotr x 2) (rotr x 13)) (rotr x 22)
def chf (e f g : Int) : Int := bits .xor .u32 (bits .and .u32 e f) (bits .and .u32 (bits .xor .u32 IntKind.u32.max e) g)
def majf (a b c : Int) : Int := bits .xor .u32 (bits .xor .u32 (bits .and .u32 a b) (bits .and .u32 a c)) (bits .and .u32 b c)
/-- One round of the third loop. -/
def rstep (l : List Int) (k w : Int) : List Int :=
  let T := rd l 7 + S1 (rd l 4) + chf (rd l 4) (rd l 5) (rd l 6) + k + w
  [(T + S0 (rd l 0) + majf (rd l 0) (rd l 1) (rd l 2)) % 4294967296, rd l 0, rd l 1, rd l 2, (rd l 3 + T) % 4294967296, rd l 4, rd l 5, rd l 6]
theorem rstep_cells (x0 x1 x2 x3 x4 x5 x6 x7 xk xw : Int) : (#[.int .u32 ((x7 + bits .xor .u32 (bits .xor .u32 (rotr x4 6) (rotr x4 11)) (rotr x4 25) + bits .xor .u32 (bits .and .u32 x4 x5) (bits .and .u32 (bits .xor .u32 IntKind.u32.max x4) x6) + xk + xw + bits .xor .u32 (bits .xor .u32 (rotr x0 2) (rotr x0 13)) (rotr x0 22) + bits .xor .u32 (bits .xor .u32 (bits .and .u32 x0 x1) (bits .and .u32 x0 x2)) (bits .and .u32 x1 x2)) % 4294967296), .int .u32 x0, .int .u32 x1, .int .u32 x2, .int .u32 ((x3 + (x7 + bits .xor .u32 (bits .xor .u32 (rotr x4 6) (rotr x4 11)) (rotr x4 25) + bits .xor .u32 (bits .and .u32 x4 x5) (bits .and .u32 (bits .xor .u32 IntKind.u32.max x4) x6) + xk + xw)) % 4294967296), .int .u32 x4, .int .u32 x5, .int .u32 x6] : Array Value) = ws (rstep [x0, x1, x2, x3, x4, x5, x6, x7] xk xw) := by
  have r0 : rd [x0, x1, x2, x3, x4, x5, x6, x7] 0 = x0 := rfl
  have r1 : rd [x0, x1, x2, x3, x4, x5, x6, x7] 1 = x1 := rfl
  have r2 : rd [x0, x1, x2, x3, x4, x5, x6, x7] 2 = x2 := rfl
  have r3 : rd [x0, x1, x2, x3, x4, x5, x6, x7] 3 = x3 := rfl
  have r4 : rd [x0, x1, x2, x3, x4, x5, x6, x7] 4 = x4 := rfl
  have r5 : rd [x0, x1, x2, x3, x4, x5, x6, x7] 5 = x5 := rfl
  have r6 : rd [x0, x1, x2, x3, x4, x5, x6, x7] 6 = x6 := rfl
  have r7 : rd [x0, x1, x2, x3, x4, x5, x6, x7] 7 = x7 := rfl
  simp only [rstep, r0, r1, r2, r3, r4, r5, r6, r7, S0, S1, chf, majf, ws, List.map_cons, List.map_nil]
theorem rstep_len (l : List Int) (k w : Int) : (rstep l k w).length = 8 := rfl
theorem ws8_size (a b c d e f g i : Int) : (ws [a, b, c, d, e, f, g, i]).size = 8 := by simp [ws]
theorem rstep_size (l : List Int) (k w : Int) : some 8 = some (ws (rstep l k w)).size := by rw [ws_size, rstep_len]
theorem rstep_hold (a b c d e f g i k w : Int) (l : List Int) : (ws [a, b, c, d, e, f, g, i]).size = (ws (rstep l k w)).size := by rw [ws8_size, ws_size, rstep_len]
def R3 (hs W : List Int) : Nat → List Int
  | 0 => hs
  | i + 1 => rstep (R3 hs W i) (rd K64 i) (rd W i)
theorem R3_len (hs W : List Int) (h : hs.length = 8) (i : Nat) : (R3 hs W i).length = 8 := by
  cases i with
  | zero => exact h
  | succ i => rfl
/-- The fourth loop. -/
def V4 (hs v : List Int) : Nat → List Int
  | 0 => v
  | i + 1 => (V4 hs v i).set i ((rd (V4 hs v i) i + rd hs i) % 4294967296)
theorem V4_len (hs v : List Int) (h : v.length = 8) (i : Nat) : (V4 hs v i).length = 8 := by
  induction i with
  | zero => exact h
  | succ i ih => simp [V4, ih]
/-- The compression function. -/
def blockF (hs b : List Int) : List Int := V4 hs (R3 hs (W2 b 48) 64) 8
theorem blockF_len (hs b : List Int) (h : hs.length = 8) : (blockF hs b).length = 8 := V4_len _ _ (R3_len _ _ h _) _
theorem rotr_7 (x : Int) : rotr x 7 = bits .or .u32 (x / 128) (x * 33554432 % 4294967296) := rfl
theorem rotr_18 (x : Int) : rotr x 18 = bits .or .u32 (x / 262144) (x * 16384 % 4294967296) := rfl
theorem rotr_17 (x : Int) : rotr x 17 = bits .or .u32 (x / 131072) (x * 32768 % 4294967296) := rfl
theorem rotr_19 (x : Int) : rotr x 19 = bits .or .u32 (x / 524288) (x * 8192 % 4294967296) := rfl
theorem rotr_6 (x : Int) : rotr x 6 = bits .or .u32 (x / 64) (x * 67108864 % 4294967296) := rfl
theorem rotr_11 (x : Int) : rotr x 11 = bits .or .u32 (x / 2048) (x * 2097152 % 4294967296) := rfl
theorem rotr_25 (x : Int) : rotr x 25 = bits .or .u32 (x / 33554432) (x * 128 % 4294967296) := rfl
theorem rotr_2 (x : Int) : rotr x 2 = bits .or .u32 (x / 4) (x * 1073741824 % 4294967296) := rfl
theorem rotr_13 (x : Int) : rotr x 13 = bits .or .u32 (x / 8192) (x * 524288 % 4294967296) := rfl
theorem rotr_22 (x : Int) : rotr x 22 = bits .or .u32 (x / 4194304) (x * 1024 % 4294967296) := rfl
theorem V4_eight (h0 h1 h2 h3 h4 h5 h6 h7 x0 x1 x2 x3 x4 x5 x6 x7 : Int) : V4 [h0, h1, h2, h3, h4, h5, h6, h7] [x0, x1, x2, x3, x4, x5, x6, x7] 8 =
    [(h0 + x0) % 4294967296, (h1 + x1) % 4294967296, (h2 + x2) % 4294967296, (h3 + x3) % 4294967296, (h4 + x4) % 4294967296, (h5 + x5) % 4294967296, (h6 + x6) % 4294967296, (h7 + x7) % 4294967296] := by
  rw [Int.add_comm h0, Int.add_comm h1, Int.add_comm h2, Int.add_comm h3, Int.add_comm h4, Int.add_comm h5, Int.add_comm h6, Int.add_comm h7]
  rfl
theorem rstep_lit (x0 x1 x2 x3 x4 x5 x6 x7 xk xw : Int) : rstep [x0, x1, x2, x3, x4, x5, x6, x7] xk xw =
    [(x7 + S1 x4 + chf x4 x5 x6 + xk + xw + (S0 x0 + majf x0 x1 x2)) % 4294967296, x0, x1, x2, (x3 + (x7 + S1 x4 + chf x4 x5 x6 + xk + xw)) % 4294967296, x4, x5, x6] := by
  rw [← Int.add_assoc (x7 + S1 x4 + chf x4 x5 x6 + xk + xw) (S0 x0) (majf x0 x1 x2)]
  rfl
end Go.Proofs.Ytilehfdplgciiaa.Hand
