import Derived.Test.YtilehfdplgciiaaSha
import Derived.StillTailTactics
import Derived.Deep.MidRow
namespace Go.Proofs.Ytilehfdplgciiaa.Hand
open Go.RowKit Go.Proofs.YtilehfdplgciiaaW.PrintWords
set_option linter.unusedVariables false

theorem spot_none {w : World} {a : Addr} {v : Value} (h : w.cell? a = some v) : a.spot = none := by
  unfold World.cell? at h
  split at h
  · split at h
    · cases h
    · rename_i hs
      simpa using hs
  · cases h
/-- A row that is read begins at a plain address. -/
theorem reads_plain {w : World} {k : IntKind} {A : Option Addr} {n : Nat} {xs : List Int} (h : ReadsInt w k A n xs) (hn : 0 < n) :
    ∃ b off, A = some ⟨b, off, none⟩ ∧ b < w.heap.size ∧ ∀ j, j < n → w.cell? ⟨b, off + j, none⟩ = some (.int k (rd xs j)) := by
  obtain ⟨ad, rfl, hcell⟩ := h.2.2 hn
  obtain ⟨b, off, sp⟩ := ad
  have h0 : w.cell? ⟨b, off, sp⟩ = _ := hcell 0 hn
  obtain rfl : sp = none := spot_none h0
  refine ⟨b, off, rfl, World.block_lt_of_cell? w _ h0, fun j hj => ?_⟩
  have := hcell j hj
  unfold Addr.add at this
  split at this
  · rename_i e
    subst e
    exact this
  · exact this
theorem own_at {w : World} {B g cap : Nat} {e : TypeId} {k : IntKind} {xs : List Int} (hg : B ≤ g) (hh : w.heap[g]? = some (.cells (xs.map (Value.int k)).toArray e (0, 0))) (hc : xs.length = cap) (hm : cap ≤ maxLen) :
    Kd.R (Kd.int k) e w B (fun _ => True) (.slice (some ⟨g, 0, none⟩) xs.length cap) xs := by
  refine Kd.R_of_own ⟨by simp [encs], .inr ⟨g, cap, (xs.map (Value.int k)).toArray, rfl, hg, hh, by omega, hm, ?_⟩⟩ (fun _ _ => trivial)
  refine ⟨by simp [hc], ?_⟩
  show ((xs.map (Value.int k)).take (xs.length * 1)) = xs.map (Value.int k)
  exact List.take_of_length_le (by rw [List.length_map, Nat.mul_one]; exact Nat.le_refl _)

/-- A slice's length. -/
def slen : Value → Nat
  | .slice _ n _ => n
  | _ => 0
theorem own_cap {w : World} {B e size n c : Nat} {A : Option Addr} {m : Nat} {xs : List Value} (h : w.ownsRow B e size (.slice A m c) n xs) : m = n ∧ n ≤ c := by
  rcases h.2 with ⟨h1, h2⟩ | ⟨g, cap, cur, h1, _, _, h2, _⟩
  · injection h1 with _ a b
    omega
  · injection h1 with _ a b
    omega
theorem own_block {w : World} {B e size n c : Nat} {A : Option Addr} {m : Nat} {xs : List Value} (h : w.ownsRow B e size (.slice A m c) n xs) : ∀ ad, A = some ad → (Value.slice A m c).ownBlock = some ad.block := by
  intro ad e1
  subst e1
  rfl
theorem wpStill_load_mid {P : Program} {ops : Array Oper} {w : World} {Q : Act → Prop} {a : Act} {op : Oper} {rest : List Oper} (hgd : op.guard = none) (ty : TypeId) (x : Operand) (ho : op.op = .load ty x)
    (b o : Nat) (hx : a.eval x = .pointer (some ⟨b, o, none⟩)) (cs : List Value) (d : TypeDesc) (hc : w.rangeAt b o cs) (hu : P.underlying ty = some d) (hd : d.isRow = true) (hi : (P.info? ty).map (·.size) = some cs.length)
    (h : wpStill P ops w Q rest (a.put op.dst (.agg cs.toArray))) : wpStill P ops w Q (op :: rest) a := by
  refine wpStill_step fun K hK => ?_
  rw [if_pos (by simp [Region.wanted, hgd])]
  unfold Oper.still execOp
  simp only [ho, hx, Instr.loadAt, Instr.sureAddr, Sem.run_bind, Sem.run_pure, Result.andThen_ok, run_loadVar_mid w b o ty cs d hc hu hd hi]
  rw [Oper.stillUpon_value]
  exact hK _ h
theorem rd_take (xs : List Int) (k : Nat) (j : Nat) (h : j < k) : rd (xs.take k) j = rd xs j := by
  simp [rd, List.getD_eq_getElem?_getD, h]
theorem below_weaken_at {B : Nat} {w0 w w1 : World} (h : Below B w0 w) (k : Below w.heap.size w w1) (hB : B ≤ w.heap.size) : Below B w0 w1 := below_then h hB k
end Go.Proofs.Ytilehfdplgciiaa.Hand
