import Derived.Test.YtilehfdplgciiaaProg
import Derived.Test.YtilehfdplgciiaaWWords
import Derived.Test.YtilehfdplgciiaaWKept
import Derived.Below
import Derived.KernelRfl
import Derived.WalkKit
import Derived.Outline
import Derived.Lib.Hide
import Derived.WalkSpells
import Derived.Deep.RegionWith
import Derived.Deep.RegionHeld3
import Derived.Deep.DeepCutAuto
import Derived.Deep.QuietTactic
import Derived.StillTailTactics
import Derived.BigQuiet
import Derived.BigRegion
/-! A tree in memory: its block, its rows; what a call keeps. -/
namespace Go.Proofs.Ytilehfdplgciiaa.Hand
open Go.RowKit Go.Proofs.YtilehfdplgciiaaW.PrintWords
set_option linter.unusedVariables false

/-- All but the blocks of S is as it was; no block has gone. -/
structure Kp (S : Nat → Prop) (w w' : World) : Prop where
  os : w'.os = w.os
  tape : w'.tape = w.tape
  output : w'.output = w.output
  size : w.heap.size ≤ w'.heap.size
  block : ∀ k, k < w.heap.size → ¬ S k → w'.heap[k]? = w.heap[k]?
theorem Kp.refl (S : Nat → Prop) (w : World) : Kp S w w := ⟨rfl, rfl, rfl, Nat.le_refl _, fun _ _ _ => rfl⟩
theorem Kp.of_below {w w' : World} (S : Nat → Prop) (h : Below w.heap.size w w') : Kp S w w' := ⟨h.os, h.tape, h.output, h.size, fun k hk _ => h.block k hk⟩
theorem Kp.then_ {S S2 : Nat → Prop} {w w1 w2 : World} (h : Kp S w w1) (k : Kp S2 w1 w2) (hs : ∀ i, S2 i → S i ∨ w.heap.size ≤ i) : Kp S w w2 :=
  ⟨k.os.trans h.os, k.tape.trans h.tape, k.output.trans h.output, Nat.le_trans h.size k.size, fun i hi hn => (k.block i (Nat.lt_of_lt_of_le hi h.size) (fun h2 => (hs i h2).elim hn (fun h3 => by omega))).trans (h.block i hi hn)⟩
theorem Kp.trans {S : Nat → Prop} {w w1 w2 : World} (h : Kp S w w1) (k : Kp S w1 w2) : Kp S w w2 := h.then_ k (fun _ h => .inl h)
theorem Kp.mono {S S2 : Nat → Prop} {w w1 : World} (h : Kp S w w1) (hs : ∀ i, S i → S2 i) : Kp S2 w w1 := ⟨h.os, h.tape, h.output, h.size, fun i hi hn => h.block i hi (fun h2 => hn (hs i h2))⟩
theorem Kp.after_below {S : Nat → Prop} {w w1 w2 : World} (h : Kp S w w1) (k : Below w1.heap.size w1 w2) : Kp S w w2 := h.trans (.of_below S k)
theorem Kp.alloc {S : Nat → Prop} {w w1 : World} (h : Kp S w w1) (o : Obj) : Kp S w (w1.alloc o) := h.after_below (below_alloc (Below.refl _ _) o)
theorem Kp.drewN {S : Nat → Prop} {w w1 : World} (h : Kp S w w1) (n : Nat) : Kp S w (w1.drewN n) := h.after_below (pw_below_drewN (Below.refl _ _) n)
theorem Kp.drew {S : Nat → Prop} {w w1 : World} (h : Kp S w w1) : Kp S w w1.drew := h.after_below (below_drew (Below.refl _ _))
theorem Kp.setCell {S : Nat → Prop} {w w1 : World} (h : Kp S w w1) {p : Addr} (hp : S p.block ∨ w.heap.size ≤ p.block) (u : Value) : Kp S w (w1.setCell p u) :=
  h.then_ (S2 := fun k => k = p.block) ⟨rfl, rfl, rfl, by simp [World.setCell], fun i _ hn => Below.heap_setCell w1 p u i hn⟩ (fun i hi => by rw [hi]; exact hp)
theorem Kp.grown {S : Nat → Prop} {w w1 w2 : World} {row : Option Nat} (h : Kp S w w1) (hg : w1.grownBy w2 row) (hr : ∀ k, row = some k → S k ∨ w.heap.size ≤ k) : Kp S w w2 :=
  h.then_ (S2 := fun k => row = some k) ⟨hg.os, hg.tape, hg.output, hg.size, fun i hi hn => hg.block i hi (fun he => hn he.symm)⟩ hr
theorem Kp.below {S : Nat → Prop} {B : Nat} {w0 w w1 : World} (k : Kp S w w1) (h : Below B w0 w) (hB : B ≤ w.heap.size) (hs : ∀ i, S i → B ≤ i) : Below B w0 w1 :=
  ⟨k.os.trans h.os, k.tape.trans h.tape, k.output.trans h.output, Nat.le_trans h.size k.size, fun i hi => (k.block i (by omega) (fun h2 => by have := hs i h2; omega)).trans (h.block i hi)⟩
/-- A row of strings that lies in memory, apart from the blocks of S. -/
def StrAt (W : World) (S : Nat → Prop) (v : Value) (xs : List ByteArray) : Prop :=
  ∃ (b c : Nat) (rs : Array Value), v = .slice (some ⟨b, 0, none⟩) xs.length c ∧ ¬ S b ∧ W.heap[b]? = some (.cells rs 9 (0, 0)) ∧ ∀ i (h : i < xs.length), rs[i]? = some (.string xs[i])
/-- A row of such rows. -/
def Lv (W : World) (S : Nat → Prop) (v : Value) (lss : List (List ByteArray)) : Prop :=
  ∃ (b c : Nat) (rs : Array Value), v = .slice (some ⟨b, 0, none⟩) lss.length c ∧ ¬ S b ∧ W.heap[b]? = some (.cells rs 26 (0, 0)) ∧ ∀ i (h : i < lss.length), ∃ u, rs[i]? = some u ∧ StrAt W S u lss[i]
theorem StrAt.kept {w w' : World} {S : Nat → Prop} {v : Value} {xs : List ByteArray} (h : StrAt w S v xs) (k : Kp S w w') : StrAt w' S v xs := by
  obtain ⟨b, c, rs, e, hb, hh, hr⟩ := h
  exact ⟨b, c, rs, e, hb, (k.block b (blk_lt hh) hb).trans hh, hr⟩
theorem Lv.kept {w w' : World} {S : Nat → Prop} {v : Value} {xs : List (List ByteArray)} (h : Lv w S v xs) (k : Kp S w w') : Lv w' S v xs := by
  obtain ⟨b, c, rs, e, hb, hh, hr⟩ := h
  exact ⟨b, c, rs, e, hb, (k.block b (blk_lt hh) hb).trans hh, fun i hi => by obtain ⟨u, hu, hs⟩ := hr i hi; exact ⟨u, hu, hs.kept k⟩⟩
theorem StrAt.apart {w : World} {S S2 : Nat → Prop} {v : Value} {xs : List ByteArray} (h : StrAt w S v xs) (hs : ∀ k, k < w.heap.size → S2 k → S k) : StrAt w S2 v xs := by
  obtain ⟨b, c, rs, e, hb, hh, hr⟩ := h
  exact ⟨b, c, rs, e, fun h2 => hb (hs b (blk_lt hh) h2), hh, hr⟩
theorem Lv.apart {w : World} {S S2 : Nat → Prop} {v : Value} {xs : List (List ByteArray)} (h : Lv w S v xs) (hs : ∀ k, k < w.heap.size → S2 k → S k) : Lv w S2 v xs := by
  obtain ⟨b, c, rs, e, hb, hh, hr⟩ := h
  exact ⟨b, c, rs, e, fun h2 => hb (hs b (blk_lt hh) h2), hh, fun i hi => by obtain ⟨u, hu, hk⟩ := hr i hi; exact ⟨u, hu, hk.apart hs⟩⟩
/-- A block of another type is none of the rows. -/
theorem StrAt.but {w : World} {S : Nat → Prop} {v : Value} {xs : List ByteArray} {g : Nat} {t : TypeId} {cs : Array Value} {fr : Nat × Nat} (h : StrAt w S v xs) (hg : w.heap[g]? = some (.cells cs t fr)) (ht : t ≠ 9) : StrAt w (fun k => S k ∨ k = g) v xs := by
  obtain ⟨b, c, rs, e, hb, hh, hr⟩ := h
  refine ⟨b, c, rs, e, fun h2 => h2.elim hb (fun h3 => ?_), hh, hr⟩
  subst h3
  rw [hh] at hg
  injection hg with hg
  injection hg with _ hg
  exact ht hg.symm
theorem Lv.but {w : World} {S : Nat → Prop} {v : Value} {xs : List (List ByteArray)} {g : Nat} {t : TypeId} {cs : Array Value} {fr : Nat × Nat} (h : Lv w S v xs) (hg : w.heap[g]? = some (.cells cs t fr)) (ht : t ≠ 9) (ht2 : t ≠ 26) : Lv w (fun k => S k ∨ k = g) v xs := by
  obtain ⟨b, c, rs, e, hb, hh, hr⟩ := h
  refine ⟨b, c, rs, e, fun h2 => h2.elim hb (fun h3 => ?_), hh, fun i hi => by obtain ⟨u, hu, hk⟩ := hr i hi; exact ⟨u, hu, hk.but hg ht⟩⟩
  subst h3
  rw [hh] at hg
  injection hg with hg
  injection hg with _ hg
  exact ht2 hg.symm
theorem StrAt.cell {w : World} {S : Nat → Prop} {v : Value} {xs : List ByteArray} (h : StrAt w S v xs) : ∃ b c, v = .slice (some ⟨b, 0, none⟩) xs.length c ∧ ∀ i (h : i < xs.length), w.cell? ⟨b, i, none⟩ = some (.string xs[i]) := by
  obtain ⟨b, c, rs, e, hb, hh, hr⟩ := h
  exact ⟨b, c, e, fun i hi => (blk_cell hh i).trans (hr i hi)⟩
theorem Lv.cell {w : World} {S : Nat → Prop} {v : Value} {xs : List (List ByteArray)} (h : Lv w S v xs) : ∃ b c, v = .slice (some ⟨b, 0, none⟩) xs.length c ∧ ∀ i (h : i < xs.length), ∃ u, w.cell? ⟨b, i, none⟩ = some u ∧ StrAt w S u xs[i] := by
  obtain ⟨b, c, rs, e, hb, hh, hr⟩ := h
  exact ⟨b, c, e, fun i hi => by obtain ⟨u, hu, hk⟩ := hr i hi; exact ⟨u, (blk_cell hh i).trans hu, hk⟩⟩
/-- Out of a row of the call's own. -/
theorem StrAt.of_own {w : World} {base : Nat} {v : Value} {xs : List ByteArray} {S : Nat → Prop} (h : Kd.R Kd.string 9 w base (fun _ => True) v xs) (hx : 0 < xs.length) (hS : ∀ k, S k → k < base) : StrAt w S v xs := by
  have ho := Kd.own_of_R h
  obtain ⟨hl, h2⟩ := ho
  rcases h2 with ⟨_, h2⟩ | ⟨g, cap, cur, e, hg, hh, hc, hm, hcur⟩
  · omega
  · refine ⟨g, cap, cur, e, fun h3 => by have := hS g h3; omega, hh, fun i hi => ?_⟩
    have h4 : (cur.toList.take (xs.length * 1))[i]? = (encs Value.string xs)[i]? := by rw [hcur.2]
    rw [List.getElem?_take_of_lt (by omega)] at h4
    rw [← Array.getElem?_toList, h4]
    simp [encs, hi]
end Go.Proofs.Ytilehfdplgciiaa.Hand
/-! The tree's small methods, walked. -/
namespace Go.Proofs.Ytilehfdplgciiaa.Hand
open Go.RowKit Go.Proofs.YtilehfdplgciiaaW.PrintWords
set_option linter.unusedVariables false

/-- The tree's block. -/
def Tr (W : World) (g : Nat) (v : Value) (s id : ByteArray) (h : Nat) : Prop := W.heap[g]? = some (.cells #[v, .string s, .string id, .int .i64 h] 73 (0, 0))
theorem Tr.c0 {W : World} {g : Nat} {v : Value} {s id : ByteArray} {h : Nat} (t : Tr W g v s id h) : W.cell? ⟨g, 0, none⟩ = some v := (blk_cell t 0).trans rfl
theorem Tr.c1 {W : World} {g : Nat} {v : Value} {s id : ByteArray} {h : Nat} (t : Tr W g v s id h) : W.cell? ⟨g, 1, none⟩ = some (.string s) := (blk_cell t 1).trans rfl
theorem Tr.c2 {W : World} {g : Nat} {v : Value} {s id : ByteArray} {h : Nat} (t : Tr W g v s id h) : W.cell? ⟨g, 2, none⟩ = some (.string id) := (blk_cell t 2).trans rfl
theorem Tr.c3 {W : World} {g : Nat} {v : Value} {s id : ByteArray} {h : Nat} (t : Tr W g v s id h) : W.cell? ⟨g, 3, none⟩ = some (.int .i64 h) := (blk_cell t 3).trans rfl
theorem Tr.f0 {W : World} {g : Nat} {v : Value} {s id : ByteArray} {h : Nat} (t : Tr W g v s id h) : W.frozen? ⟨g, 0, none⟩ = false := blk_frozen t 0

theorem ne_empty {s : ByteArray} (hs : 0 < s.size) : s.toList.isEmpty = false ∧ (!s.toList.isEmpty) = true := by
  have h1 : ¬ s.toList = [] := by
    intro h
    have : s.toList.length = s.size := by rw [ByteArray.toList_eq]; exact data_length s
    rw [h] at this
    simp at this
    omega
  exact ⟨by simpa using h1, by simpa using h1⟩
theorem valid_any (w : World) (g : Nat) (v : Value) (s id : ByteArray) (h : Nat) (hT : Tr w g v s id h) (hs : 0 < s.size) :
    Calls Try.prog 80 #[.pointer (some ⟨g, 0, none⟩)] w fun e w' => e = .returned (.bool true) ∧ w = w' := by
  have c1 := hT.c1
  obtain ⟨e1, e2⟩ := ne_empty hs
  go_enter Try.func80, Try.ntmps80
  go_wp2
  go_ret
  exact ⟨rfl, rfl⟩
theorem valid_nil (w : World) :
    Calls Try.prog 80 #[.pointer none] w fun e w' => e = .returned (.bool false) ∧ w = w' := by
  go_enter Try.func80, Try.ntmps80
  go_wp2
  go_ret
  exact ⟨rfl, rfl⟩
theorem valid_zero (w : World) (g : Nat) (v : Value) (id : ByteArray) (h : Nat) (hT : Tr w g v ⟨#[]⟩ id h) :
    Calls Try.prog 80 #[.pointer (some ⟨g, 0, none⟩)] w fun e w' => e = .returned (.bool false) ∧ w = w' := by
  have c1 := hT.c1
  go_enter Try.func80, Try.ntmps80
  go_wp2
  go_ret
  exact ⟨rfl, rfl⟩
theorem pow_w (h : Nat) (h8 : h ≤ 8) : wrap64 ((2 : Int) ^ h) = ((2 ^ h : Nat) : Int) := by
  have h1 : 2 ^ h ≤ 2 ^ 8 := Nat.pow_le_pow_right (by decide) h8
  have e : (2 : Int) ^ h = ((2 ^ h : Nat) : Int) := by simp
  rw [e]
  generalize 2 ^ h = n at *
  unfold wrap64
  omega
theorem ret_i64 {a b : Int} (h : a = b) : Ending.returned (.int .i64 a) = .returned (.int .i64 b) := by rw [h]
theorem leaves_any (w : World) (g : Nat) (v : Value) (s id : ByteArray) (h : Nat) (hT : Tr w g v s id h) (hs : 0 < s.size) (h8 : h ≤ 8) :
    Calls Try.prog 45 #[.pointer (some ⟨g, 0, none⟩)] w fun e w' => e = .returned (.int .i64 ((2 ^ h : Nat) : Int)) ∧ w = w' := by
  have c3 := hT.c3
  have hk := valid_any w g v s id h hT hs
  clear hT
  go_enter Try.func45, Try.ntmps45
  go_wp2_with (go_at_call 80; refine hk.mono ?_; rintro e w' ⟨rfl, rfl⟩)
  go_ret
  exact ⟨ret_i64 (pow_w h h8), rfl⟩
theorem leaves_nil (w : World) :
    Calls Try.prog 45 #[.pointer none] w fun e w' => e = .returned (.int .i64 0) ∧ w = w' := by
  go_enter Try.func45, Try.ntmps45
  go_wp2_with (go_at_call 80; refine (valid_nil _).mono ?_; rintro e w' ⟨rfl, rfl⟩)
  go_ret
  exact ⟨rfl, rfl⟩
theorem leaves_zero (w : World) (g : Nat) (v : Value) (id : ByteArray) (h : Nat) (hT : Tr w g v ⟨#[]⟩ id h) :
    Calls Try.prog 45 #[.pointer (some ⟨g, 0, none⟩)] w fun e w' => e = .returned (.int .i64 0) ∧ w = w' := by
  have hk := valid_zero w g v id h hT
  clear hT
  go_enter Try.func45, Try.ntmps45
  go_wp2_with (go_at_call 80; refine hk.mono ?_; rintro e w' ⟨rfl, rfl⟩)
  go_ret
  exact ⟨rfl, rfl⟩
theorem key_nil (w : World) :
    Calls Try.prog 42 #[.pointer none] w fun e w' => e = .returned (.agg #[.int .i64 0, .string ⟨#[]⟩, .string ⟨#[]⟩]) ∧ Below w.heap.size w w' := by
  go_enter Try.func42, Try.ntmps42
  go_wp2_with (go_at_call 80; refine (valid_nil _).mono ?_; rintro e w' ⟨rfl, rfl⟩)
  exact bodyPost_ret (v := .agg #[.int .i64 0, .string ⟨#[]⟩, .string ⟨#[]⟩]) (by simp [results, Try.results42, go_sem]) rfl ⟨rfl, (Below.refl _ _).alloc (Nat.le_refl _) _⟩
theorem key_zero (w : World) (g : Nat) (v : Value) (id : ByteArray) (h : Nat) (hT : Tr w g v ⟨#[]⟩ id h) :
    Calls Try.prog 42 #[.pointer (some ⟨g, 0, none⟩)] w fun e w' => e = .returned (.agg #[.int .i64 0, .string ⟨#[]⟩, .string ⟨#[]⟩]) ∧ Below w.heap.size w w' := by
  have hk := fun o : Obj => valid_zero (w.alloc o) g v id h ((Below.heap_alloc w o g (blk_lt hT)).trans hT)
  clear hT
  go_enter Try.func42, Try.ntmps42
  go_wp2_with (go_at_call 80; refine (hk _).mono ?_; rintro e w' ⟨rfl, rfl⟩)
  exact bodyPost_ret (v := .agg #[.int .i64 0, .string ⟨#[]⟩, .string ⟨#[]⟩]) (by simp [results, Try.results42, go_sem]) rfl ⟨rfl, (Below.refl _ _).alloc (Nat.le_refl _) _⟩
theorem sign_nil (leaf : Int) (m : ByteArray) (w : World) :
    Calls Try.prog 47 #[.pointer none, .int .i64 leaf, .string m] w fun e w' => e = .returned (.tuple #[.string ⟨#[]⟩, .int .i64 18]) ∧ w = w' := by
  go_enter Try.func47, Try.ntmps47
  go_wp2_with (go_at_call 80; refine (valid_nil _).mono ?_; rintro e w' ⟨rfl, rfl⟩)
  go_ret2
  exact ⟨rfl, rfl⟩
theorem sign_zero (leaf : Int) (m : ByteArray) (w : World) (g : Nat) (v : Value) (id : ByteArray) (h : Nat) (hT : Tr w g v ⟨#[]⟩ id h) :
    Calls Try.prog 47 #[.pointer (some ⟨g, 0, none⟩), .int .i64 leaf, .string m] w fun e w' => e = .returned (.tuple #[.string ⟨#[]⟩, .int .i64 18]) ∧ w = w' := by
  have hk := valid_zero w g v id h hT
  clear hT
  go_enter Try.func47, Try.ntmps47
  go_wp2_with (go_at_call 80; refine hk.mono ?_; rintro e w' ⟨rfl, rfl⟩)
  go_ret2
  exact ⟨rfl, rfl⟩
end Go.Proofs.Ytilehfdplgciiaa.Hand
