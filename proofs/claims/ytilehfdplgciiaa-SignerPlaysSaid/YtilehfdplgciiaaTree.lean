import Derived.Test.YtilehfdplgciiaaPm
import Derived.Test.YtilehfdplgciiaaTr
import Derived.Deep.DrawnRows
import Derived.Deep.RegionLaw
import Derived.Deep.AppendLies
import Derived.IntWalk
import Derived.Laws.Rows
/-! Contracts of the functions beneath the trees, in plain words. -/
namespace Go.Proofs.Ytilehfdplgciiaa.Plain
open Go.RowKit Go.Proofs.Ytilehfdplgciiaa.PLM Go.Proofs.YtilehfdplgciiaaW.PrintWords Go.Proofs.YtilehfdplgciiaaW.PrintLast
open Hand (cat sha outBytes comp IV digits nibs short tail3 all16 nib2 lack)
set_option linter.unusedVariables false

theorem five_len (a b c d e f : ByteArray) : (cat [a, b, c, d, e, f]).length = a.size + b.size + c.size + d.size + e.size + f.size := by
  simp only [cat_cons, cat_nil, List.length_append, bytesOf_length, List.length_nil]
  omega
theorem two_len (a b : ByteArray) : (cat [a, b]).length = a.size + b.size := by
  simp only [cat_cons, cat_nil, List.length_append, bytesOf_length, List.length_nil]
  omega
theorem par_f (id : ByteArray) (l i : Int) (a b : ByteArray) (h1 : id.size ≤ 1000) (h2 : a.size ≤ 1000) (h3 : b.size ≤ 1000) : merkle_parent.f id l i a b = some (par id l i a b) := by
  unfold merkle_parent.f
  rw [show merkle_b1.f l = some (b1 l) from rfl, Option.bind_some, show merkle_b4.f i = some (b4 i) from rfl, Option.bind_some, ots_short _ (by rw [five_len, b1_size, b4_size]; show 1 + _ + _ + _ + _ + _ ≤ _; omega)]
  rfl
theorem par_any (id : ByteArray) (l i : Int) (a b : ByteArray) (h1 : id.size ≤ 1000) (h2 : a.size ≤ 1000) (h3 : b.size ≤ 1000) (W : World) :
    Calls Try.prog 85 #[.string id, .int .i64 l, .int .i64 i, .string a, .string b] W fun e w' => e = .returned (.string (par id l i a b)) ∧ Below W.heap.size W w' :=
  merkle_parent.calls id l i a b _ W (par_f id l i a b h1 h2 h3)
theorem mdig_f (h : Int) (id rt : ByteArray) (leaf : Int) (m : ByteArray) (h1 : id.size ≤ 1000) (h2 : rt.size ≤ 1000) (h3 : m.size ≤ 1000) : merkle_digest.f h id rt leaf m = some (mdig id rt leaf m) := by
  unfold merkle_digest.f
  rw [show merkle_b4.f leaf = some (b4 leaf) from rfl, Option.bind_some, ots_short _ (by simp only [cat_cons, cat_nil, List.length_append, bytesOf_length, b4_size, List.length_nil]; show 1 + _ ≤ _; omega)]
  rfl
theorem mdig_any (h : Int) (id rt : ByteArray) (leaf : Int) (m : ByteArray) (h1 : id.size ≤ 1000) (h2 : rt.size ≤ 1000) (h3 : m.size ≤ 1000) (W : World) :
    Calls Try.prog 83 #[.agg #[.int .i64 h, .string id, .string rt], .int .i64 leaf, .string m] W fun e w' => e = .returned (.string (mdig id rt leaf m)) ∧ Below W.heap.size W w' :=
  merkle_digest.calls h id rt leaf m _ W (mdig_f h id rt leaf m h1 h2 h3)
theorem pub_any (id s : ByteArray) (i : Nat) (h1 : id.size = 16) (h2 : s.size = 32) (h3 : i < 256) (W : World) :
    Calls Try.prog 32 #[.string id, .string s, .int .i64 i] W fun e w' => e = .returned (.tuple #[.string (leafKey id s i), .int .i64 0]) ∧ Below W.heap.size W w' :=
  ots_Public.calls 60 id s i _ _ W (by rw [ots_pub_f id s i 60 (by decide), pubR_ok id s i h1 h2 h3])
theorem sign_any (id s : ByteArray) (i : Nat) (d : ByteArray) (h1 : id.size = 16) (h2 : s.size = 32) (h3 : i < 256) (h4 : d.size = 16) (W : World) :
    Calls Try.prog 34 #[.string id, .string s, .int .i64 i, .string d] W fun e w' => e = .returned (.tuple #[.string (signR id s i d).1, .int .i64 0]) ∧ Below W.heap.size W w' :=
  ots_Sign.calls 60 id s i d _ _ W (by rw [ots_sign_f id s i d 60 (by decide), ← (signR_ok id s i d h1 h2 h3 h4).1])
theorem name_any (s : ByteArray) (h : s.size ≤ 1000) (A : Option Addr) (c : Nat) (hc : 2 ≤ c) (W : World) (hR : Kd.C Kd.string W A 2 [⟨#[73]⟩, s]) :
    Calls Try.prog 79 #[.slice A 2 c] W fun e w' => e = .returned (.string (nameOf s)) ∧ Below W.heap.size W w' :=
  hash_Short.calls A c [⟨#[73]⟩, s] _ W hR hc (ots_short _ (by rw [two_len]; show 1 + _ ≤ _; omega))
theorem mb4_any (x : Int) (W : World) : Calls Try.prog 84 #[.int .i64 x] W fun e w' => e = .returned (.string (b4 x)) ∧ Below W.heap.size W w' := merkle_b4.calls x _ W rfl
theorem seed_any (x : Int) (W : World) : Calls Try.prog 28 #[.int .i64 x] W fun e w' => e = .returned (.string (seed x)) ∧ Below W.heap.size W w' := certpathmade_Seed.calls x _ W (seed_f x)
end Go.Proofs.Ytilehfdplgciiaa.Plain
/-! merkle's grow, walked. -/
namespace Go.Proofs.Ytilehfdplgciiaa.Hand
open Go.RowKit Go.Proofs.YtilehfdplgciiaaW.PrintWords Go.Proofs.Ytilehfdplgciiaa.PLM Go.Proofs.Ytilehfdplgciiaa.Plain
set_option linter.unusedVariables false
attribute [local go_sem ↓] Go.wp_at_zero Go.wp_at_succ

theorem info_strs : (Try.prog.info? 26).map (fun i => (i.zero, i.size, i.bytes)) = some (some (.slice none 0 0), 1, 24) := by kernel_rfl
theorem info_str : (Try.prog.info? 9).map (fun i => (i.zero, i.size, i.bytes)) = some (some (.string ⟨#[]⟩), 1, 16) := by kernel_rfl
def row0 (id s : ByteArray) (k : Nat) : List ByteArray := (List.range k).map fun i => leafKey id s i
theorem row0_succ (id s : ByteArray) (k : Nat) : row0 id s k ++ [leafKey id s k] = row0 id s (k + 1) := by unfold row0; rw [List.range_succ, List.map_append]; rfl
theorem row0_len (id s : ByteArray) (k : Nat) : (row0 id s k).length = k := by simp [row0]
/-- Levels 0 to l lie in memory, the last of them in slot 2. -/
def GS (w0 : World) (g : Nat) (s id : ByteArray) (h : Nat) (l : Nat) (s2 : Value) (W : World) : Prop :=
  ∃ v us, Tr W g v s id h ∧ W.ownsRow w0.heap.size 26 1 v (l + 1) us ∧ us.length = l + 1 ∧ (∀ i (hi : i < us.length), StrAt W (fun k => k = g) us[i] (lev s id h i)) ∧ StrAt W (fun k => k = g) s2 (lev s id h l) ∧ Kp (fun k => k = g) w0 W
theorem GS_start {w wr : World} {g : Nat} {s id : ByteArray} {h : Nat} {u : Value} (hT : Tr wr g (.slice none 0 0) s id h) (hS : StrAt wr (fun j => j = g) u (lev s id h 0)) (hB : Below w.heap.size w wr) :
    GS w g s id h 0 u ((wr.setCell ⟨g, 0, none⟩ (.slice (some ⟨wr.heap.size, 0, none⟩) 1 1)).alloc (.cells #[u] 26)) := by
  have hk : Kp (fun k => k = g) wr ((wr.setCell ⟨g, 0, none⟩ (.slice (some ⟨wr.heap.size, 0, none⟩) 1 1)).alloc (.cells #[u] 26)) := ((Kp.refl (fun k => k = g) wr).setCell (p := ⟨g, 0, none⟩) (.inl rfl) _).alloc _
  have hz : (wr.setCell ⟨g, 0, none⟩ (.slice (some ⟨wr.heap.size, 0, none⟩) 1 1)).heap.size = wr.heap.size := by simp [World.setCell]
  refine ⟨.slice (some ⟨wr.heap.size, 0, none⟩) 1 1, [u], ?_, ?_, rfl, ?_, hS.kept hk, (Kp.of_below _ hB).trans hk⟩
  · unfold Tr
    rw [Below.heap_alloc _ _ _ (by rw [hz]; exact blk_lt hT), blk_set hT]
    rfl
  · refine ⟨rfl, .inr ⟨wr.heap.size, 1, #[u], rfl, hB.size, ?_, Nat.le_refl _, by simp [maxLen], rfl, rfl⟩⟩
    have := heap_alloc_new (wr.setCell ⟨g, 0, none⟩ (.slice (some ⟨wr.heap.size, 0, none⟩) 1 1)) (.cells #[u] 26)
    rw [hz] at this
    exact this
  · intro i hi
    obtain rfl : i = 0 := by simpa using hi
    exact hS.kept hk
theorem StrAt.grown {w w' : World} {S : Nat → Prop} {u : Value} {xs : List ByteArray} {row : Option Nat} (h : StrAt w S u xs) (hg : w.grownBy w' row) (hr : ∀ k, row = some k → ∃ cs, w.heap[k]? = some (.cells cs 26 (0, 0))) : StrAt w' S u xs := by
  obtain ⟨b, c, rs, e, hb, hh, hx⟩ := h
  refine ⟨b, c, rs, e, hb, (hg.block b (blk_lt hh) (fun e2 => ?_)).trans hh, hx⟩
  obtain ⟨cs, h2⟩ := hr b e2.symm
  rw [hh] at h2
  injection h2 with h2
  injection h2 with _ h2
  exact absurd h2 (by decide)
theorem GS_next {w wr w9 : World} {g : Nat} {s id : ByteArray} {h l : Nat} {v v9 u : Value} {us : List Value} (hTr : Tr wr g v s id h) (hown : wr.ownsRow w.heap.size 26 1 v (l + 1) us) (hul : us.length = l + 1)
    (hus : ∀ i (hi : i < us.length), StrAt wr (fun k => k = g) us[i] (lev s id h i)) (hK : Kp (fun k => k = g) w wr) (hu : StrAt wr (fun k => k = g) u (lev s id h (l + 1))) (hg9 : wr.grownBy w9 v.ownBlock)
    (ho9 : w9.ownsRow w.heap.size 26 1 v9 (us ++ [u]).length (us ++ [u])) : GS w g s id h (l + 1) u (w9.setCell ⟨g, 0, none⟩ v9) := by
  have hT9 : Tr w9 g v s id h := blk_grown hTr hg9 (fun e => own_apart hown hTr (by decide) g e.symm rfl)
  have hk9 : Kp (fun k => k = g) w9 (w9.setCell ⟨g, 0, none⟩ v9) := (Kp.refl (fun k => k = g) w9).setCell (p := ⟨g, 0, none⟩) (.inl rfl) _
  have hty : ∀ k, v.ownBlock = some k → ∃ cs, wr.heap[k]? = some (.cells cs 26 (0, 0)) := fun k hk => own_typed hown k hk
  have hlen : (us ++ [u]).length = l + 1 + 1 := by simp [hul]
  refine ⟨v9, us ++ [u], ?_, ?_, hlen, ?_, (hu.grown hg9 hty).kept hk9, (hK.grown hg9 (fun k hk => .inr (own_base hown k hk))).trans hk9⟩
  · unfold Tr
    rw [blk_set hT9]
    rfl
  · rw [hlen] at ho9
    exact own_setCell ho9 (p := ⟨g, 0, none⟩) (fun e => own_apart ho9 hT9 (by decide) g e.symm rfl) _
  · intro i hi
    by_cases hil : i < us.length
    · rw [List.getElem_append_left hil]
      exact ((hus i hil).grown hg9 hty).kept hk9
    · obtain rfl : i = us.length := by simp at hi; omega
      rw [List.getElem_append_right (Nat.le_refl _)]
      simp only [Nat.sub_self, List.getElem_cons_zero]
      rw [hul]
      exact (hu.grown hg9 hty).kept hk9
theorem GS_end {w wr : World} {g : Nat} {s id : ByteArray} {h : Nat} {u : Value} (hG : GS w g s id h h u wr) : (∃ v, Tr wr g v s id h ∧ Lv wr (fun k => k = g) v ((List.range (h + 1)).map (lev s id h))) ∧ Kp (fun k => k = g) w wr := by
  obtain ⟨v, us, hTr, hown, hul, hus, hst, hK⟩ := hG
  refine ⟨⟨v, hTr, ?_⟩, hK⟩
  rcases hown.2 with ⟨_, h2⟩ | ⟨b, cap, cur, rfl, hb, hh, hc, hm, hcur⟩
  · omega
  · refine ⟨b, cap, cur, by simp, fun e => own_apart hown hTr (by decide) g (by rw [← e]; rfl) rfl, hh, fun i hi => ?_⟩
    have hi2 : i < us.length := by simpa [hul] using hi
    refine ⟨us[i], ?_, ?_⟩
    · have h4 : (cur.toList.take ((h + 1) * 1))[i]? = us[i]? := by rw [hcur.2]
      rw [List.getElem?_take_of_lt (by omega)] at h4
      rw [← Array.getElem?_toList, h4, List.getElem?_eq_getElem hi2]
    · have := hus i hi2
      simpa using this
/-- The nodes of a level, as far as they are computed. -/
def upTo (id : ByteArray) (l : Nat) (xs : List ByteArray) (k : Nat) : List ByteArray := (List.range k).map fun (i : Nat) => par id (l : Int) (i : Int) (at_ xs (2 * i)) (at_ xs (2 * i + 1))
theorem upTo_succ (id : ByteArray) (l : Nat) (xs : List ByteArray) (k : Nat) : encs Value.string (upTo id l xs k) ++ [.string (par id (l : Int) (k : Int) (at_ xs (2 * k)) (at_ xs (2 * k + 1)))] = encs Value.string (upTo id l xs (k + 1)) := by
  unfold upTo
  rw [List.range_succ, List.map_append]
  simp [encs]
set_option maxHeartbeats 4000000 in
set_option maxRecDepth 100000 in
theorem grow_new (w : World) (g : Nat) (s id : ByteArray) (h : Nat) (hT : Tr w g (.slice none 0 0) s id h) (hs : s.size = 32) (hid : id.size = 16) (h8 : h ≤ 8) :
    Calls Try.prog 81 #[.pointer (some ⟨g, 0, none⟩)] w fun e w' => e = .returned (.tuple #[]) ∧ (∃ v, Tr w' g v s id h ∧ Lv w' (fun k => k = g) v ((List.range (h + 1)).map (lev s id h))) ∧ Kp (fun k => k = g) w w' := by
  have HT := Lib.hid hT
  have hgl := blk_lt hT
  have c0 := hT.c0
  have c1 := hT.c1
  have c2 := hT.c2
  have c3 := hT.c3
  clear hT
  obtain ⟨n, hn⟩ : ∃ n, n = 2 ^ h := ⟨_, rfl⟩
  have hn1 : 0 < n := by rw [hn]; exact Nat.pow_pos (by decide)
  have hn2 : n ≤ 256 := by
    have : 2 ^ h ≤ 2 ^ 8 := Nat.pow_le_pow_right (by decide) h8
    omega
  have hpw : wrap64 ((2 : Int) ^ h) = (n : Int) := by rw [hn]; exact pow_w h h8
  have HN := Lib.hid hn
  clear hn
  have knil := fun W : World => run_neq_slice_nil_any (P := Try.prog) W 61 26 none 0 0 0 0 Try.underlying61
  go_enter Try.func81, Try.ntmps81
  go_wp2
  have HP := Lib.hid hpw
  clear hpw knil c0 c1 c2 c3
  go_loopw [2, 3, 4, 5] (fun s2 s3 _ _ wr => ∃ (k : Nat), k ≤ n ∧ s3 = .int .i64 k ∧ Kd.R Kd.string 9 wr w.heap.size (fun _ => True) s2 (row0 id s k) ∧ Below w.heap.size w wr) (fun _ s3 _ _ _ => (n - intOf s3).toNat)
  case atStart => exact ⟨0, Nat.zero_le _, rfl, Kd.R_nil _ _ _ _ _, Below.refl _ _⟩
  case round =>
    obtain ⟨k, hk, rfl, hR, hB⟩ := hrel
    have c1 := (hB.cell (p := ⟨g, 1, none⟩) hgl).trans HT.out.c1
    have c2 := (hB.cell (p := ⟨g, 2, none⟩) hgl).trans HT.out.c2
    have c3 := (hB.cell (p := ⟨g, 3, none⟩) hgl).trans HT.out.c3
    have HR := Lib.hid hR
    have HB := Lib.hid hB
    clear hR hB
    have hpw := HP.out
    by_cases hlt : k < n
    · have hk1 : k < 256 := by omega
      have q0 : (k : Int) < n := by omega
      go_upto_region 5 with fail
      clear hpw
      have d1 : wr.drew.cell? ⟨g, 1, none⟩ = some (.string s) := c1
      go_region_held3 (fun w' => w'.cell? ⟨g, 1, none⟩ = some (.string s) ∧ w'.cell? ⟨g, 2, none⟩ = some (.string id)) (go_keep) ((go_at_call 32; refine (pub_any id s k hid hs hk1 _).mono ?_; rintro e w2 ⟨rfl, hb2⟩; have e1 := (hb2.cell (p := ⟨g, 1, none⟩) (World.block_lt_of_cell? _ _ c1)).trans c1; have e2 := (hb2.cell (p := ⟨g, 2, none⟩) (World.block_lt_of_cell? _ _ c2)).trans c2))
      have hR2 := Kd.R_below (Kd.R_drew HR.out) hb2
      have hB2 := (below_drew HB.out).trans (hb2.mono (show w.heap.size ≤ wr.drew.heap.size from HB.out.size))
      have HR2 := Lib.hid hR2
      have HB2 := Lib.hid hB2
      clear hR2 hB2 HR HB hb2 c1 c2 c3 d1 e1 e2
      have hl := row0_len id s k
      have HL := Lib.hid hl
      clear hl
      go_wp2_with (at_builtin; refine Kd.R_append Kd.string (w0 := w) w.heap.size rfl (.tmp 38) (.tmp 40) 26 9 (.string ⟨#[]⟩) 16 rfl Try.underlying26 info_str rfl (by decide) (by omega) u2 (row0 id s k) (leafKey id s k) [.string (leafKey id s k)] (fun _ => True) (fun _ => False) rfl rfl ?aP (fun _ hk => hk.elim) (fun _ _ => trivial) HR2.out HB2.out HB2.out.size ?aL ?_; (case aP => exact rfl); (case aL => rw [HL.out]; omega); intro v3 w3 ho hb hg hat; rw [row0_succ] at ho)
      go_roundw
      case rel => exact ⟨k + 1, by omega, by go_num, ho, hb⟩
      case measure => simp [intOf]; omega
    · have hk2 : k = n := by omega
      subst hk2
      have hlen := row0_len id s k
      obtain ⟨A2, cp2, ev2⟩ := Kd.R_slice HR.out
      subst ev2
      have hS := StrAt.of_own (S := fun j => j = g) HR.out (by omega) (fun j hj => by omega)
      have hS' : StrAt wr (fun j => j = g) (.slice A2 (row0 id s k).length cp2) (lev s id h 0) := by
        show StrAt wr _ _ ((List.range (2 ^ h)).map fun i => leafKey id s i)
        rw [← HN.out]
        exact hS
      have hT2 : Tr wr g (.slice none 0 0) s id h := (HB.out.block g hgl).trans HT.out
      have HS := Lib.hid hS'
      rw [hlen] at *
      have HT2 := Lib.hid hT2
      have c0 := hT2.c0
      have f0 := hT2.f0
      clear hS hS' hT2 hlen c1 c2
      have hgw : g < wr.heap.size := by have := HB.out.size; omega
      go_upto_block 2 with fail
      have HG := Lib.hid (GS_start HT2.out HS.out HB.out)
      generalize (wr.setCell ⟨g, 0, none⟩ (.slice (some ⟨wr.heap.size, 0, none⟩) 1 1)).alloc (.cells #[.slice A2 k cp2] 26) = W1 at *
      clear HS HT2 HR HB c0 f0 c3 hpw hgw
      obtain ⟨i0, hi0, hz0, hz1, hz2⟩ := info_parts info_str
      go_wp2
      go_loopw [2, 6, 7, 8] (fun s2 s6 _ _ wr => ∃ l : Nat, l ≤ h ∧ s6 = .int .i64 l ∧ GS w g s id h l s2 wr) (fun _ s6 _ _ _ => (h - intOf s6).toNat)
      case atStart => exact ⟨0, Nat.zero_le _, rfl, HG.out⟩
      case round =>
        clear HG W1
        obtain ⟨l, hl, rfl, v, us, hTr, hown, hul, hus, hst, hK⟩ := hrel
        have hgo := blk_lt hTr
        have c3 := hTr.c3
        have c2 := hTr.c2
        have hxl := lev_len s id h l hl
        have hxz := lev_size s id h h8 hid hs l hl
        obtain ⟨b2, cap2, e2, hcells⟩ := hst.cell
        subst e2
        have HTr := Lib.hid hTr
        have Hown := Lib.hid hown
        have Hus := Lib.hid hus
        have Hul := Lib.hid hul
        have Hst := Lib.hid hst
        have HK := Lib.hid hK
        have Hcells := Lib.hid hcells
        rw [← hxl] at hxz
        have Hxz := Lib.hid hxz
        have Hxl := Lib.hid hxl
        clear hTr hown hus hul hst hK hcells hxz hxl
        by_cases hlh : l < h
        · have hm : (lev s id h l).length ≤ 256 := by
            rw [Hxl.out]
            have := Nat.pow_le_pow_right (show 0 < 2 by decide) (show h - l ≤ 8 by omega)
            omega
          have Hup := Lib.hid (show upTo id l (lev s id h l) ((lev s id h l).length / 2) = lev s id h (l + 1) from rfl)
          generalize lev s id h l = xs at *
          have q0 : (l : Int) < h := by omega
          obtain ⟨wo, hwo⟩ : ∃ wo : World, wo = wr := ⟨_, rfl⟩
          subst hwo
          go_wp2
          go_loopw [7, 8] (fun s7 s8 wq => ∃ j : Nat, j ≤ xs.length / 2 ∧ s8 = .int .i64 j ∧ wq.ownsRow wo.heap.size 9 1 s7 j (encs Value.string (upTo id l xs j)) ∧ Below wo.heap.size wo wq) (fun _ s8 _ => (xs.length / 2 - intOf s8).toNat)
          case atStart => exact ⟨0, Nat.zero_le _, rfl, own_nil _ _ _ _, Below.refl _ _⟩
          case round =>
            obtain ⟨j, hj, rfl, hO, hB⟩ := hrel
            by_cases hlt2 : j < xs.length / 2
            · have q1 : (j : Int) < (xs.length : Int) / 2 := by omega
              have hca := Hcells.out (2 * j) (by omega)
              have hcb := Hcells.out (2 * j + 1) (by omega)
              have hza := Hxz.out (2 * j) (by omega)
              have hzb := Hxz.out (2 * j + 1) (by omega)
              have ea : xs[2 * j] = at_ xs (2 * j) := by unfold at_; rw [List.getD_eq_getElem?_getD, List.getElem?_eq_getElem (by omega)]; rfl
              have eb : xs[2 * j + 1] = at_ xs (2 * j + 1) := by unfold at_; rw [List.getD_eq_getElem?_getD, List.getElem?_eq_getElem (by omega)]; rfl
              rw [ea] at hca
              rw [eb] at hcb
              have hup := upTo_succ id l xs j
              obtain ⟨j1, hj1⟩ : ∃ j1, j1 = 2 * j := ⟨_, rfl⟩
              obtain ⟨j2, hj2⟩ : ∃ j2, j2 = 2 * j + 1 := ⟨_, rfl⟩
              rw [← hj2] at hcb hzb hup
              rw [← hj1] at hca hza hup
              have p1 : (0 : Int) ≤ (j1 : Int) := by omega
              have p2 : (j1 : Int) < (xs.length : Int) := by omega
              have p3 : (0 : Int) ≤ (j2 : Int) := by omega
              have p4 : (j2 : Int) < (xs.length : Int) := by omega
              have w1 : IntKind.i64.wrap (2 * (j : Int)) = (j1 : Int) := (IntWalk.i64_in _ (by omega)).trans (by omega)
              have w2 : IntKind.i64.wrap ((j1 : Int) + 1) = (j2 : Int) := (IntWalk.i64_in _ (by omega)).trans (by omega)
              have ca := (hB.cell (p := ⟨b2, j1, none⟩) (World.block_lt_of_cell? _ _ hca)).trans hca
              have cb := (hB.cell (p := ⟨b2, j2, none⟩) (World.block_lt_of_cell? _ _ hcb)).trans hcb
              have ci := (hB.cell (p := ⟨g, 2, none⟩) hgo).trans c2
              generalize at_ xs j1 = a at *
              generalize at_ xs j2 = b at *
              have hbl : b2 < wo.heap.size := World.block_lt_of_cell? _ _ hca
              have hzq := hB.size
              have hne : ∀ bk, bk < wo.heap.size → some bk ≠ u7.ownBlock := fun bk hbk e => by have := own_base hO bk e.symm; omega
              have ng := hne g hgo
              have nb2 := hne b2 hbl
              have hlen2 : j ≤ 256 := by omega
              have HO := Lib.hid hO
              have HB := Lib.hid hB
              have Hup2 := Lib.hid hup
              have HJ1 := Lib.hid hj1
              have HJ2 := Lib.hid hj2
              have HZA := Lib.hid hza
              have HZB := Lib.hid hzb
              clear hO hB hup hca hcb ea eb hj1 hj2 hza hzb c2 c3 hne
              go_upto_region 15 with fail
              go_region_held3 (fun w' => w'.cell? ⟨g, 2, none⟩ = some (.string id) ∧ w'.cell? ⟨b2, j1, none⟩ = some (.string a) ∧ w'.cell? ⟨b2, j2, none⟩ = some (.string b))
                (first
                  | go_keep
                  | (go_split_ands
                     refine ⟨?_, ?_, ?_⟩
                     · (rw [hgr5.cell_far _ (by simp; omega) ng]; assumption)
                     · (rw [hgr5.cell_far _ (by simp; omega) nb2]; assumption)
                     · (rw [hgr5.cell_far _ (by simp; omega) nb2]; assumption)))
                ((first
                  | (go_at_call 85; refine (par_any id l j a b (by rw [hid]; decide) (by rw [HZA.out]; decide) (by rw [HZB.out]; decide) _).mono ?_; rintro e w2 ⟨rfl, hb2⟩; have hzw : wr.heap.size ≤ w2.heap.size := hb2.size; have e1 := (hb2.cell (p := ⟨g, 2, none⟩) (World.block_lt_of_cell? _ _ ci)).trans ci; have e2 := (hb2.cell (p := ⟨b2, j1, none⟩) (World.block_lt_of_cell? _ _ ca)).trans ca; have e3 := (hb2.cell (p := ⟨b2, j2, none⟩) (World.block_lt_of_cell? _ _ cb)).trans cb)
                  | (refine step_append_lies _ (by rfl) _ _ _ (by rfl) wo.heap.size 9 i0 _ 1 16 Try.underlying26 hi0 hz0 hz1 hz2 rfl (by omega) u7 j (encs Value.string (upTo id l xs j)) (by rfl) ((pw_own_below (pw_own_below HO.out (below_drew (Below.refl _ _))) hb2).alloc _) ⟨w2.heap.size, 0, none⟩ 1 1 [.string (par id l j a b)] (by rfl) (by rfl) (World.news_of_block (cs := #[.string (par id l j a b)]) (t := 9) (fr := (0, 0)) (heap_alloc_new w2 _)) (by simp [Value.oneCell']) (by omega) (by simp [maxLen]; omega) (by omega) (by simp; omega) (w2.heap.size + 1) (by simp) ?_; intro g5 cap5 w5 ho5 hgr5 hat5 hlt5)))
              go_wp2
              go_roundw
              case rel => exact ⟨j + 1, by omega, by go_num, by rw [← Hup2.out]; exact ho5, ((HB.out.trans ((below_drew (Below.refl _ wr)).mono hzq)).trans (hb2.mono hzq)).trans (((below_alloc (Below.refl _ w2) _).mono (by omega)).grown hgr5 (by simp; omega) (fun q e => own_base HO.out q e))⟩
              case measure => simp [intOf]; omega
            · have hj2 : j = xs.length / 2 := by omega
              subst hj2
              have hp2 : 0 < 2 ^ (h - (l + 1)) := Nat.pow_pos (by decide)
              have hl1 : (lev s id h (l + 1)).length = xs.length / 2 := by
                rw [← Hup.out]
                simp [upTo]
              have hl2 := lev_len s id h (l + 1) (by omega)
              obtain ⟨A7, c7, e7⟩ := own_slice hO
              subst e7
              rw [Hup.out] at hO
              have hO2 := hO
              rw [← hl1] at hO2
              have hu := StrAt.of_own (S := fun k => k = g) (Kd.R_of_own hO2 (fun _ _ => trivial)) (by omega) (fun k hk => by omega)
              rw [hl1] at hu
              have hTw : Tr wr g v s id h := (hB.block g hgo).trans HTr.out
              have hOw := pw_own_below Hown.out hB
              have hKw := HK.out.after_below hB
              have hUw : ∀ i (hi : i < us.length), StrAt wr (fun k => k = g) us[i] (lev s id h i) := fun i hi => (Hus.out i hi).kept (Kp.of_below _ hB)
              have HTw := Lib.hid hTw
              have HOw := Lib.hid hOw
              have HKw := Lib.hid hKw
              have HUw := Lib.hid hUw
              have HU := Lib.hid hu
              have c0 := hTw.c0
              have f0 := hTw.f0
              have hwz : w.heap.size ≤ wr.heap.size := hKw.size
              have hus2 : us.length ≤ 9 := by rw [Hul.out]; omega
              clear hTw hOw hKw hUw hu hl1 hl2 hp2 hO hO2 hB c2 c3 Hcells Hst HK Hus Hown HTr Hxl Hxz Hup HN HP HT
              go_wp2_with (at_builtin; refine print_append (w0 := wr) w.heap.size rfl (.tmp 90) (.tmp 92) 61 26 (.slice none 0 0) 24 rfl Try.underlying61 info_strs rfl (by decide) v us (.slice A7 (xs.length / 2) c7) rfl rfl rfl (by rw [Hul.out]; exact HOw.out) (Below.refl _ _) hwz (by omega) ?_; intro v9 w9 ho9 hB9 hg9 hat9; have hT9 : Tr w9 g v s id h := blk_grown HTw.out hg9 (fun e => own_apart HOw.out HTw.out (by decide) g e.symm rfl); have d0 := hT9.c0; have d1 := hT9.f0; obtain ⟨A9, c9, rfl⟩ := own_slice ho9)
              go_roundw
              case rel => exact ⟨l + 1, by omega, by go_num, GS_next HTw.out HOw.out Hul.out HUw.out HKw.out HU.out hg9 (by have h0 := ho9; simp only [List.length_append, List.length_cons, List.length_nil] at h0 ⊢; exact h0)⟩
              case measure => simp [intOf]; omega
        · obtain rfl : l = h := by omega
          have hE := GS_end ⟨v, us, HTr.out, Hown.out, Hul.out, Hus.out, Hst.out, HK.out⟩
          have HE := Lib.hid hE
          clear hE
          go_wp2
          go_end0
          exact ⟨rfl, HE.out⟩
end Go.Proofs.Ytilehfdplgciiaa.Hand
/-! merkle's Key, walked: a tree that is grown or not. -/
namespace Go.Proofs.Ytilehfdplgciiaa.Hand
open Go.RowKit Go.Proofs.YtilehfdplgciiaaW.PrintWords Go.Proofs.Ytilehfdplgciiaa.PLM Go.Proofs.Ytilehfdplgciiaa.Plain
set_option linter.unusedVariables false
attribute [local go_sem ↓] Go.wp_at_zero Go.wp_at_succ

/-- A tree of a seed and a height at block g, its nodes computed or not. -/
def TS (W : World) (g : Nat) (s : ByteArray) (h : Nat) : Prop := ∃ v, Tr W g v s (nameOf s) h ∧ (v = .slice none 0 0 ∨ Lv W (fun k => k = g) v (levels s h))
/-- .. its nodes computed. -/
def TG (W : World) (g : Nat) (s : ByteArray) (h : Nat) (v : Value) : Prop := Tr W g v s (nameOf s) h ∧ Lv W (fun k => k = g) v (levels s h)
theorem TG.ts {W : World} {g : Nat} {s : ByteArray} {h : Nat} {v : Value} (t : TG W g s h v) : TS W g s h := ⟨v, t.1, .inr t.2⟩
theorem TS.below {W W2 : World} {g : Nat} {s : ByteArray} {h : Nat} (t : TS W g s h) (hb : Below W.heap.size W W2) : TS W2 g s h := by
  obtain ⟨v, hT, hv⟩ := t
  exact ⟨v, (hb.block g (blk_lt hT)).trans hT, hv.imp id (fun hl => hl.kept (Kp.of_below _ hb))⟩
theorem TG.below {W W2 : World} {g : Nat} {s : ByteArray} {h : Nat} {v : Value} (t : TG W g s h v) (hb : Below W.heap.size W W2) : TG W2 g s h v :=
  ⟨(hb.block g (blk_lt t.1)).trans t.1, t.2.kept (Kp.of_below _ hb)⟩
theorem TS.lt {W : World} {g : Nat} {s : ByteArray} {h : Nat} (t : TS W g s h) : g < W.heap.size := by
  obtain ⟨v, hT, _⟩ := t
  exact blk_lt hT
theorem TG.lt {W : World} {g : Nat} {s : ByteArray} {h : Nat} {v : Value} (t : TG W g s h v) : g < W.heap.size := blk_lt t.1
theorem grow_old (w : World) (g : Nat) (s : ByteArray) (h : Nat) (v : Value) (t : TG w g s h v) :
    Calls Try.prog 81 #[.pointer (some ⟨g, 0, none⟩)] w fun e w' => e = .returned (.tuple #[]) ∧ w = w' := by
  have c0 := t.1.c0
  obtain ⟨b, c, rs, e, hx⟩ := t.2
  clear hx
  subst e
  clear t
  generalize (levels s h).length = n at *
  have knil : ∀ W : World, (binOp .neq 61 (.slice (some ⟨b, 0, none⟩) n c) (.slice none 0 0)).run Try.prog W = .ok (.bool true) W := fun W => run_neq_slice_nil_any (P := Try.prog) W 61 26 (some ⟨b, 0, none⟩) n c 0 0 Try.underlying61
  go_enter Try.func81, Try.ntmps81
  go_wp2
  exact bodyPost_ret (v := .tuple #[]) (by simp [results, Try.results81, go_sem]) rfl ⟨rfl, rfl⟩
theorem grow_any (w : World) (g : Nat) (s : ByteArray) (h : Nat) (t : TS w g s h) (hs : s.size = 32) (h8 : h ≤ 8) :
    Calls Try.prog 81 #[.pointer (some ⟨g, 0, none⟩)] w fun e w' => e = .returned (.tuple #[]) ∧ (∃ v, TG w' g s h v) ∧ Kp (fun k => k = g) w w' := by
  obtain ⟨v, hT, rfl | hv⟩ := t
  · exact grow_new w g s (nameOf s) h hT hs (nameOf_size s) h8
  · refine (grow_old w g s h v ⟨hT, hv⟩).mono ?_
    rintro e w' ⟨rfl, rfl⟩
    exact ⟨rfl, ⟨v, hT, hv⟩, Kp.refl _ _⟩
theorem root_any (w : World) (s : ByteArray) (h : Nat) (h8 : h ≤ 8) (v : Value) (S : Nat → Prop) (hv : Lv w S v (levels s h)) :
    Calls Try.prog 82 #[.agg #[v]] w fun e w' => e = .returned (.string (root s h)) ∧ Below w.heap.size w w' := by
  obtain ⟨b, c, rfl, hc⟩ := hv.cell
  have hll := levels_len s h
  obtain ⟨u, hu, hst⟩ := hc h (by omega)
  rw [levels_get s h h (by omega)] at hst
  have hl0 := lev_len s (nameOf s) h h (Nat.le_refl _)
  rw [Nat.sub_self, Nat.pow_zero] at hl0
  obtain ⟨b2, c2, rfl, hc2⟩ := hst.cell
  have hr := hc2 0 (by omega)
  have er : (lev s (nameOf s) h h)[0] = root s h := by unfold root at_; rw [List.getD_eq_getElem?_getD, List.getElem?_eq_getElem (by omega)]; rfl
  rw [er] at hr
  rw [hl0] at hu
  have HB := World.block_lt_of_cell? _ _ hu
  have HB2 := World.block_lt_of_cell? _ _ hr
  rw [hll]
  clear hc hst hc2 er hl0 hv hll
  generalize root s h = r at *
  have q0 : (0 : Int) ≤ (h : Int) := by omega
  have hB := below_alloc (Below.refl w.heap.size w) (.cells #[.slice (some ⟨b, 0, none⟩) (h + 1) c] 71)
  go_enter Try.func82, Try.ntmps82
  go_wp2
  go_ret
  exact ⟨rfl, hB⟩
theorem size_key : (Try.prog.info? 58).map (·.size) = some 3 := by kernel_rfl
def keyV (s : ByteArray) (h : Nat) : Value := .agg #[.int .i64 h, .string (nameOf s), .string (root s h)]
set_option maxHeartbeats 4000000 in
set_option maxRecDepth 100000 in
theorem key_any (w : World) (g : Nat) (s : ByteArray) (h : Nat) (t : TS w g s h) (hs : s.size = 32) (h8 : h ≤ 8) :
    Calls Try.prog 42 #[.pointer (some ⟨g, 0, none⟩)] w fun e w' => e = .returned (keyV s h) ∧ (∃ v, TG w' g s h v) ∧ Kp (fun k => k = g) w w' := by
  have hgl := t.lt
  have hk0 := (Kp.refl (fun k => k = g) w).alloc (.cells #[.int .i64 0, .string ⟨#[]⟩, .string ⟨#[]⟩] 58)
  have t1 := t.below (below_alloc (Below.refl w.heap.size w) (.cells #[.int .i64 0, .string ⟨#[]⟩, .string ⟨#[]⟩] 58))
  have hr1 := heap_alloc_new w (.cells #[.int .i64 0, .string ⟨#[]⟩, .string ⟨#[]⟩] 58)
  have HK0 := Lib.hid hk0
  have HT1 := Lib.hid t1
  have HR1 := Lib.hid hr1
  clear hk0 t1 hr1 t
  go_enter Try.func42, Try.ntmps42
  go_upto_region 1 with fail
  generalize w.alloc (.cells #[.int .i64 0, .string ⟨#[]⟩, .string ⟨#[]⟩] 58) = w1 at *
  obtain ⟨gr, hgr⟩ : ∃ gr, gr = w.heap.size := ⟨_, rfl⟩
  rw [← hgr] at hgl HR1 ⊢
  have HGR := Lib.hid hgr
  clear hgr
  have hv1 : Calls Try.prog 80 #[.pointer (some ⟨g, 0, none⟩)] w1 fun e w' => e = .returned (.bool true) ∧ w1 = w' := by
    obtain ⟨v, hT, _⟩ := HT1.out
    exact valid_any w1 g v s _ h hT (by omega)
  go_upto_region 4 with (first | (go_at_call 80; refine hv1.mono ?_; rintro e w' ⟨rfl, rfl⟩) | (go_at_call 81; refine (grow_any w1 g s h HT1.out hs h8).mono ?_; rintro e w2 ⟨rfl, hTG, hK⟩; obtain ⟨v, hTG⟩ := hTG; have HTG := Lib.hid hTG; have HK2 := Lib.hid hK; clear hTG hK))
  clear hv1
  have c0 := HTG.out.1.c0
  have c2 := HTG.out.1.c2
  have c3 := HTG.out.1.c3
  have hne : g ≠ gr := by omega
  have hr2 := (HK2.out.block gr (blk_lt HR1.out) (fun e => hne e.symm)).trans HR1.out
  have HR2 := Lib.hid hr2
  clear hr2
  have hg2 := HTG.out.lt
  have FAR := Lib.hid (fun (W : World) (i j : Nat) (u : Value) => (cell_far (W := W) (a := ⟨g, i, none⟩) (p := ⟨gr, j, none⟩) hne u))
  go_region_held3 (fun w' => w'.cell? ⟨g, 0, none⟩ = some v ∧ w'.cell? ⟨g, 2, none⟩ = some (.string (nameOf s)) ∧ w'.cell? ⟨g, 3, none⟩ = some (.int .i64 h)) (first | go_keep | (go_split_ands; refine ⟨?_, ?_, ?_⟩ <;> (rw [FAR.out, FAR.out, FAR.out]; assumption))) ((go_at_call 82; refine (root_any _ s h h8 v (fun k => k = g) (HTG.out.2.kept (Kp.of_below _ (below_drew (Below.refl _ _))))).mono ?_; rintro e w3 ⟨rfl, hb3⟩; have e0 := (hb3.cell (p := ⟨g, 0, none⟩) (World.block_lt_of_cell? _ _ c0)).trans c0; have e2 := (hb3.cell (p := ⟨g, 2, none⟩) (World.block_lt_of_cell? _ _ c2)).trans c2; have e3 := (hb3.cell (p := ⟨g, 3, none⟩) (World.block_lt_of_cell? _ _ c3)).trans c3; have hr3 := (hb3.block gr (blk_lt HR2.out)).trans HR2.out; have k0 := (blk_cell hr3 0).trans rfl; have k1 := (blk_cell hr3 1).trans rfl; have k2 := (blk_cell hr3 2).trans rfl; have l0 := blk_frozen hr3 0; have l1 := blk_frozen hr3 1; have l2 := blk_frozen hr3 2))
  go_wp2
  have hfin : (((w3.setCell ⟨gr, 0, none⟩ (.int .i64 h)).setCell ⟨gr, 1, none⟩ (.string (nameOf s))).setCell ⟨gr, 2, none⟩ (.string (root s h))).heap[gr]? = some (.cells #[.int .i64 h, .string (nameOf s), .string (root s h)] 58 (0, 0)) := by
    rw [blk_set (blk_set (blk_set hr3 0 _) 1 _) 2 _]
    rfl
  have hk3 : Kp (fun k => k = gr) w3 (((w3.setCell ⟨gr, 0, none⟩ (.int .i64 h)).setCell ⟨gr, 1, none⟩ (.string (nameOf s))).setCell ⟨gr, 2, none⟩ (.string (root s h))) := (((Kp.refl (fun k => k = gr) w3).setCell (p := ⟨gr, 0, none⟩) (.inl rfl) _).setCell (p := ⟨gr, 1, none⟩) (.inl rfl) _).setCell (p := ⟨gr, 2, none⟩) (.inl rfl) _
  generalize ((w3.setCell ⟨gr, 0, none⟩ (.int .i64 h)).setCell ⟨gr, 1, none⟩ (.string (nameOf s))).setCell ⟨gr, 2, none⟩ (.string (root s h)) = w4 at *
  have hb4 : Below w2.heap.size w2 w3 := (below_drew (Below.refl w2.heap.size w2)).trans hb3
  have hT3 := HTG.out.below hb4
  have hT4 : TG w4 g s h v := ⟨(hk3.block g hT3.lt hne).trans hT3.1, ((hT3.2.but hr3 (by decide) (by decide)).kept (hk3.mono (fun i hi => .inr hi))).apart (fun k _ hk => .inl hk)⟩
  exact bodyPost_ret (v := keyV s h) (results_cell_row Try.results42 _ _ gr 58 _ (0, 0) _ rfl hfin Try.underlying58 rfl (by rw [size_key]; rfl)) rfl ⟨rfl, ⟨v, hT4⟩, ((HK0.out.trans HK2.out).after_below hb4).then_ hk3 (fun i hi => .inr (by rw [hi, HGR.out]; exact Nat.le_refl _))⟩
end Go.Proofs.Ytilehfdplgciiaa.Hand
/-! merkle's Sign, walked. -/
namespace Go.Proofs.Ytilehfdplgciiaa.Hand
open Go.RowKit Go.Proofs.YtilehfdplgciiaaW.PrintWords Go.Proofs.Ytilehfdplgciiaa.PLM Go.Proofs.Ytilehfdplgciiaa.Plain
set_option linter.unusedVariables false
attribute [local go_sem ↓] Go.wp_at_zero Go.wp_at_succ

theorem xor_one : ∀ i : Fin 256, Go.bits .xor .i64 ((i : Nat) : Int) 1 = (nb (i : Nat) : Int) := by decide +kernel
theorem key_lit (w : World) (g : Nat) (s : ByteArray) (h : Nat) (t : TS w g s h) (hs : s.size = 32) (h8 : h ≤ 8) :
    Calls Try.prog 42 #[.pointer (some ⟨g, 0, none⟩)] w fun e w' => e = .returned (.agg #[.int .i64 h, .string (nameOf s), .string (root s h)]) ∧ (∃ v, TG w' g s h v) ∧ Kp (fun k => k = g) w w' := key_any w g s h t hs h8
theorem pow_le8 {h : Nat} (h8 : h ≤ 8) : 2 ^ h ≤ 256 := by
  have : 2 ^ h ≤ 2 ^ 8 := Nat.pow_le_pow_right (by decide) h8
  omega
theorem TS.valid {w : World} {g : Nat} {s : ByteArray} {h : Nat} (t : TS w g s h) (hs : s.size = 32) : Calls Try.prog 80 #[.pointer (some ⟨g, 0, none⟩)] w fun e w' => e = .returned (.bool true) ∧ w = w' := by
  obtain ⟨v, hT, _⟩ := t
  exact valid_any w g v s _ h hT (by omega)
theorem TS.leaves {w : World} {g : Nat} {s : ByteArray} {h : Nat} (t : TS w g s h) (hs : s.size = 32) (h8 : h ≤ 8) : Calls Try.prog 45 #[.pointer (some ⟨g, 0, none⟩)] w fun e w' => e = .returned (.int .i64 ((2 ^ h : Nat) : Int)) ∧ w = w' := by
  obtain ⟨v, hT, _⟩ := t
  exact leaves_any w g v s _ h hT (by omega) h8
/-- The leaf lies outside. -/
theorem sign_out (w : World) (g : Nat) (s : ByteArray) (h : Nat) (leaf : Int) (m : ByteArray) (t : TS w g s h) (hs : s.size = 32) (h8 : h ≤ 8) (hl : leaf < 0 ∨ ((2 ^ h : Nat) : Int) ≤ leaf) :
    Calls Try.prog 47 #[.pointer (some ⟨g, 0, none⟩), .int .i64 leaf, .string m] w fun e w' => e = .returned (.tuple #[.string ⟨#[]⟩, .int .i64 1]) ∧ w = w' := by
  have k1 := t.valid hs
  have k2 := t.leaves hs h8
  generalize ((2 ^ h : Nat) : Int) = n at *
  by_cases h0 : leaf < 0
  · clear hl k2
    go_enter Try.func47, Try.ntmps47
    go_wp2_with (go_at_call 80; refine k1.mono ?_; rintro e w' ⟨rfl, rfl⟩)
    go_ret2
    exact ⟨rfl, rfl⟩
  · have h1 : n ≤ leaf := by omega
    clear hl
    go_enter Try.func47, Try.ntmps47
    go_wp2_with (first | (go_at_call 80; refine k1.mono ?_; rintro e w' ⟨rfl, rfl⟩) | (go_at_call 45; refine k2.mono ?_; rintro e w' ⟨rfl, rfl⟩))
    go_ret2
    exact ⟨rfl, rfl⟩
set_option maxHeartbeats 4000000 in
set_option maxRecDepth 100000 in
theorem sign_in (w : World) (g : Nat) (s : ByteArray) (h lf : Nat) (m : ByteArray) (t : TS w g s h) (hs : s.size = 32) (h8 : h ≤ 8) (hl : lf < 2 ^ h) (hm : m.size ≤ 1000) :
    Calls Try.prog 47 #[.pointer (some ⟨g, 0, none⟩), .int .i64 lf, .string m] w fun e w' => e = .returned (.tuple #[.string (sigR s h lf m), .int .i64 0]) ∧ (∃ v, TG w' g s h v) ∧ Kp (fun k => k = g) w w' := by
  have k1 := t.valid hs
  have k2 := t.leaves hs h8
  have hp8 := pow_le8 h8
  have hlf : lf < 256 := by omega
  have hlI : (lf : Int) < ((2 ^ h : Nat) : Int) := by omega
  have HL := Lib.hid hl
  have HP8 := Lib.hid hp8
  clear hl hp8
  generalize ((2 ^ h : Nat) : Int) = n at *
  have hT0 := t
  obtain ⟨v0, hT, _⟩ := hT0
  have c1 := hT.c1
  have c2 := hT.c2
  have hg := blk_lt hT
  clear hT
  have hidz := nameOf_size s
  have hrtz := root_size s h h8 hs
  have hdz := mdig_size (nameOf s) (root s h) lf m
  have HIZ := Lib.hid hidz
  have HRZ := Lib.hid hrtz
  have HDZ := Lib.hid hdz
  have HS := Lib.hid hs
  have HT := Lib.hid t
  clear hidz hrtz hdz t hs
  go_enter Try.func47, Try.ntmps47
  go_upto_region 5 with (first | (go_at_call 80; refine k1.mono ?_; rintro e w' ⟨rfl, rfl⟩) | (go_at_call 45; refine k2.mono ?_; rintro e w' ⟨rfl, rfl⟩))
  clear k1 k2
  go_region_held3 (fun w' => w'.cell? ⟨g, 1, none⟩ = some (.string s) ∧ w'.cell? ⟨g, 2, none⟩ = some (.string (nameOf s))) (go_keep) ((first
    | (go_at_call 42; refine (key_lit _ g s h (HT.out.below (below_drew (Below.refl _ _))) HS.out h8).mono ?_; rintro e w2 ⟨rfl, hTG, hK2⟩; obtain ⟨v, hTG⟩ := hTG; have HTG := Lib.hid hTG; have HK2 := Lib.hid hK2; have d1 := hTG.1.c1; have d2 := hTG.1.c2; clear hTG hK2)
    | (go_at_call 83; refine (mdig_any h (nameOf s) (root s h) lf m (by rw [HIZ.out]; decide) (by rw [HRZ.out]; decide) hm _).mono ?_; rintro e w3 ⟨rfl, hb3⟩; have e1 := (hb3.cell (p := ⟨g, 1, none⟩) (World.block_lt_of_cell? _ _ d1)).trans d1; have e2 := (hb3.cell (p := ⟨g, 2, none⟩) (World.block_lt_of_cell? _ _ d2)).trans d2)
    | (go_at_call 34; refine (sign_any (nameOf s) s lf (mdig (nameOf s) (root s h) lf m) HIZ.out HS.out hlf HDZ.out _).mono ?_; rintro e w4 ⟨rfl, hb4⟩; have f1 := (hb4.cell (p := ⟨g, 1, none⟩) (World.block_lt_of_cell? _ _ e1)).trans e1; have f2 := (hb4.cell (p := ⟨g, 2, none⟩) (World.block_lt_of_cell? _ _ e2)).trans e2)))
  have hz24 : w2.heap.size ≤ w3.heap.size := hb3.size
  have hb24 : Below w2.heap.size w2 w4 := hb3.trans (hb4.mono hz24)
  have hTG4 := HTG.out.below hb24
  have hK4 : Kp (fun k => k = g) w w4 := ((Kp.of_below _ (below_drew (Below.refl w.heap.size w))).trans HK2.out).after_below hb24
  have HTG4 := Lib.hid hTG4
  have HK4 := Lib.hid hK4
  clear hb24 hTG4 hK4 HTG HK2 hb3 hb4 d1 d2 e1 e2 f1 f2 c1 c2 hg hz24
  have hsg := (signR_ok (nameOf s) s lf (mdig (nameOf s) (root s h) lf m) HIZ.out HS.out hlf HDZ.out).2
  have h0 : sigL s h lf m 0 = b4 lf ++ (signR (nameOf s) s lf (mdig (nameOf s) (root s h) lf m)).1 := rfl
  have H0 := Lib.hid h0
  have HSG := Lib.hid hsg
  clear h0 hsg
  have hb4z := b4_size lf
  have hcat : (b4 lf).size + (signR (nameOf s) s lf (mdig (nameOf s) (root s h) lf m)).1.size ≤ 9223372036854775807 := by rw [hb4z, HSG.out]; decide
  clear hb4z
  generalize (signR (nameOf s) s lf (mdig (nameOf s) (root s h) lf m)).1 = sg at *
  generalize hbb : b4 (lf : Int) = bb at *
  have HBB := Lib.hid hbb
  clear hbb
  go_upto_block 0 with (go_at_call 84; refine (mb4_any lf _).mono ?_; rintro e w5 ⟨rfl, hb5⟩; rw [HBB.out])
  have hTG5 := HTG4.out.below hb5
  have hK5 := HK4.out.after_below hb5
  have HTG5 := Lib.hid hTG5
  have HK5 := Lib.hid hK5
  have c0 := hTG5.1.c0
  have c3 := hTG5.1.c3
  obtain ⟨b, cap, e, hc⟩ := hTG5.2.cell
  subst e
  have HC := Lib.hid hc
  have hll := levels_len s h
  rw [hll] at c0
  have HLL := Lib.hid hll
  clear hTG5 hK5 hc HTG4 HK4 hb5 hcat hll
  have HIN := Lib.hid (show ∀ l, l ≤ h → (sigL s h lf m l).size = 564 + 16 * l from sigL_size s h lf m h8 HS.out HL.out)
  go_wp2
  go_loop [10, 11, 12] (fun s10 s11 s12 => ∃ l : Nat, l ≤ h ∧ s11 = .int .i64 l ∧ s12 = .int .i64 ((lf / 2 ^ l : Nat) : Int) ∧ s10 = .string (sigL s h lf m l)) (fun _ s11 _ => (h - intOf s11).toNat)
  case atStart => exact ⟨0, Nat.zero_le _, rfl, by rw [Nat.pow_zero, Nat.div_one], by rw [H0.out]⟩
  case round =>
    obtain ⟨l, hl, rfl, rfl, rfl⟩ := hrel
    by_cases hlt : l < h
    · have q0 : (l : Int) < h := by omega
      have q1 : (l : Int) < h + 1 := by omega
      obtain ⟨u, hu, hst⟩ := HC.out l (by rw [HLL.out]; omega)
      rw [levels_get s h l (by rw [HLL.out]; omega)] at hst
      obtain ⟨b2, cap2, e2, hc2⟩ := hst.cell
      subst e2
      have hi8 : lf / 2 ^ l < 2 ^ (h - l) := by
        rw [Nat.div_lt_iff_lt_mul (Nat.pow_pos (by decide)), ← Nat.pow_add, show h - l + l = h by omega]
        exact HL.out
      have hn8 : nb (lf / 2 ^ l) < 2 ^ (h - l) := by
        rw [show h - l = (h - l - 1) + 1 by omega] at hi8 ⊢
        exact nb_lt _ _ hi8
      have hi256 : lf / 2 ^ l < 256 := Nat.lt_of_le_of_lt (Nat.div_le_self _ _) hlf
      have hxo := xor_one ⟨lf / 2 ^ l, hi256⟩
      have hlen := lev_len s (nameOf s) h l hl
      rw [← hlen] at hn8
      have hcn := hc2 (nb (lf / 2 ^ l)) hn8
      have ea : (lev s (nameOf s) h l)[nb (lf / 2 ^ l)] = at_ (lev s (nameOf s) h l) (nb (lf / 2 ^ l)) := by unfold at_; rw [List.getD_eq_getElem?_getD, List.getElem?_eq_getElem hn8]; rfl
      rw [ea] at hcn
      have hsz : (sigL s h lf m (l + 1)).size = (sigL s h lf m l).size + (at_ (lev s (nameOf s) h l) (nb (lf / 2 ^ l))).size := by
        show (sigL s h lf m l ++ _).size = _
        rw [ByteArray.size_append]
      have hnx : sigL s h lf m (l + 1) = sigL s h lf m l ++ at_ (lev s (nameOf s) h l) (nb (lf / 2 ^ l)) := rfl
      have hdv : lf / 2 ^ (l + 1) = lf / 2 ^ l / 2 := by rw [Nat.pow_succ, Nat.div_div_eq_div_mul]
      rw [HIN.out (l + 1) (by omega)] at hsz
      have hcat : (sigL s h lf m l).size + (at_ (lev s (nameOf s) h l) (nb (lf / 2 ^ l))).size ≤ 9223372036854775807 := by omega
      have HNX := Lib.hid hnx
      have HDV := Lib.hid hdv
      clear ea hsz hst hc2 hlen hnx hdv hi8
      generalize (lev s (nameOf s) h l).length = len at *
      generalize at_ (lev s (nameOf s) h l) (nb (lf / 2 ^ l)) = x at *
      generalize sigL s h lf m l = y at *
      have hxo2 : Go.bits .xor .i64 ((lf / 2 ^ l : Nat) : Int) 1 = ((nb (lf / 2 ^ l) : Nat) : Int) := hxo
      clear hxo
      generalize nb (lf / 2 ^ l) = j at *
      generalize lf / 2 ^ l = i at *
      have p0 : (0 : Int) ≤ (j : Int) := by omega
      have p1 : (j : Int) < (len : Int) := by omega
      have p2 : (i : Int) < 256 := by omega
      go_wp2
      go_round
      case rel => exact ⟨l + 1, by omega, by go_num, by rw [HDV.out]; go_num, by rw [HNX.out]⟩
      case measure => simp [intOf]; omega
    · obtain rfl : l = h := by omega
      have HTG6 := Lib.hid HTG5.out.ts
      go_wp2
      go_ret2
      exact ⟨rfl, ⟨_, HTG5.out⟩, HK5.out⟩
end Go.Proofs.Ytilehfdplgciiaa.Hand
/-! merkle's Generate, walked. -/
namespace Go.Proofs.Ytilehfdplgciiaa.Hand
open Go.RowKit Go.Proofs.YtilehfdplgciiaaW.PrintWords Go.Proofs.Ytilehfdplgciiaa.PLM Go.Proofs.Ytilehfdplgciiaa.Plain
set_option linter.unusedVariables false
attribute [local go_sem ↓] Go.wp_at_zero Go.wp_at_succ

theorem strs_row {w : World} {g : Nat} {e : TypeId} {xs : List ByteArray} (hh : w.heap[g]? = some (.cells (xs.map Value.string).toArray e (0, 0))) (hm : xs.length ≤ maxLen) :
    Kd.C Kd.string w (some ⟨g, 0, none⟩) xs.length xs := by
  have h : Kd.R Kd.string e w 0 (fun _ => True) (.slice (some ⟨g, 0, none⟩) xs.length xs.length) xs := by
    refine Kd.R_of_own ⟨by simp [encs], .inr ⟨g, xs.length, (xs.map Value.string).toArray, rfl, Nat.zero_le _, hh, Nat.le_refl _, hm, ?_⟩⟩ (fun _ _ => trivial)
    refine ⟨by simp, ?_⟩
    show ((xs.map Value.string).take (xs.length * 1)) = xs.map Value.string
    exact List.take_of_length_le (by rw [List.length_map, Nat.mul_one]; exact Nat.le_refl _)
  exact (Kd.R_reads' h).2.2
theorem gen_size (w : World) (s : ByteArray) (h : Int) (hs : s.size ≠ 32) :
    Calls Try.prog 40 #[.string s, .int .i64 h] w fun e w' => e = .returned (.tuple #[.pointer none, .int .i64 18]) ∧ w = w' := by
  have hne : ((s.size : Int) != 32) = true := by simp; omega
  go_enter Try.func40, Try.ntmps40
  go_wp2
  go_ret2
  exact ⟨rfl, rfl⟩
theorem gen_height (w : World) (s : ByteArray) (h : Int) (hs : s.size = 32) (hh : h < 0 ∨ 8 < h) :
    Calls Try.prog 40 #[.string s, .int .i64 h] w fun e w' => e = .returned (.tuple #[.pointer none, .int .i64 1]) ∧ w = w' := by
  have hne : ((s.size : Int) != 32) = false := by simp; omega
  rcases hh with h0 | h0
  all_goals
    go_enter Try.func40, Try.ntmps40
    go_wp2
    go_ret2
    exact ⟨rfl, rfl⟩
theorem gen_any (w : World) (s : ByteArray) (h : Nat) (hs : s.size = 32) (h8 : h ≤ 8) :
    Calls Try.prog 40 #[.string s, .int .i64 h] w fun e w' => ∃ g : Nat, e = .returned (.tuple #[.pointer (some ⟨g, 0, none⟩), .int .i64 0]) ∧ TS w' g s h ∧ w.heap.size ≤ g ∧ Below w.heap.size w w' := by
  have hne : ((s.size : Int) != 32) = false := by simp; omega
  have q1 : (h : Int) ≤ 8 := by omega
  have hR : ∀ W : World, Kd.C Kd.string (W.alloc (.cells #[.string ⟨#[73]⟩, .string s] 9)) (some ⟨W.heap.size, 0, none⟩) 2 [⟨#[73]⟩, s] := fun W => strs_row (xs := [⟨#[73]⟩, s]) (heap_alloc_new W _) (by simp [maxLen])
  have HR := Lib.hid hR
  have HS := Lib.hid hs
  clear hR hs
  go_enter Try.func40, Try.ntmps40
  go_wp2_with (go_at_call 79; refine (name_any s (by rw [HS.out]; decide) _ 2 (Nat.le_refl _) _ (HR.out _)).mono ?_; rintro e w2 ⟨rfl, hb2⟩)
  go_ret2
  have hz2 := hb2.size
  simp at hz2
  have hB2 : Below w.heap.size w w2 := (below_alloc (Below.refl w.heap.size w) _).trans (hb2.mono (by simp))
  refine ⟨w2.heap.size, rfl, ⟨.slice none 0 0, heap_alloc_new w2 _, .inl rfl⟩, by omega, below_alloc hB2 _⟩
end Go.Proofs.Ytilehfdplgciiaa.Hand
