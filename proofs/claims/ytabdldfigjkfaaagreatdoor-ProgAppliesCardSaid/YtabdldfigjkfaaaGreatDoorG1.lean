import Derived.Test.YtabdldfigjkfaaaGreatDoorA9
import Derived.Deep.RegionLaw
namespace Go.Proofs.YtabdldfigjkfaaaGreatDoor
open Go Go.RowKit

/-! prog.reply.take. -/
/-- append of one built element at a step of a drawn region, with where the row lies. -/
theorem app1sd {P : Program} {ops : Array Oper} {o : Oper} {a : Act} {K : Act → World → Prop} {Q : Exit → Act → World → Prop} {E : Prop} {W : World} (base : Nat) (hgd : o.guard = none) (s x : Operand) (t e : TypeId) (z : Value) (size bytes : Nat)
    (ho : o.op = .call { callee := .builtin .append, args := #[s, x], argTypes := #[t, t] })
    (ht : P.underlying t = some (.slice e)) (hinfo : (P.info? e).map (fun i => (i.zero, i.size, i.bytes)) = some (some z, size, bytes)) (hz : z.cells.size = size) (hs0 : 0 < size) (hb0 : 0 < bytes)
    {v : Value} {n : Nat} {xs : List Value} (HO : W.ownsRow base e size v n xs) (ys : List Value) (hs : a.eval s = v) (b : Nat) (hx : a.eval x = .slice (some ⟨b, 0, none⟩) 1 1) (hb : b = W.heap.size) (h1 : ∀ y ∈ ys, y.oneCell' = true) (hy : ys.length = size)
    (hbase : base ≤ W.heap.size) (hl : (n + 1) * bytes ≤ 140737488355328)
    (h : ∀ g cap w1, w1.ownsRow base e size (.slice (some ⟨g, 0, none⟩) (n + 1) cap) (n + 1) (xs ++ ys) → W.grownBy w1 v.ownBlock → (v.ownBlock = some g ∨ W.heap.size < g) → K (a.put o.dst (.slice (some ⟨g, 0, none⟩) (n + 1) cap)) w1) :
    if Region.wanted o (yielded ops a.tmps) = true then Oper.wp P o a (W.alloc (.cells ys.toArray e)) K Q else E := by
  subst hb
  obtain ⟨i0, hi, hzz⟩ := Option.map_eq_some_iff.1 hinfo
  simp only [Prod.mk.injEq] at hzz
  obtain ⟨hz0, hz1, hz2⟩ := hzz
  have hlen : n + 1 ≤ 140737488355328 := Nat.le_trans (Nat.le_mul_of_pos_right _ hb0) hl
  refine step_append_lies (W.alloc (.cells ys.toArray e)) hgd s x t ho base e i0 z size bytes ht hi hz0 hz1 hz2 hz hs0 v n xs hs (HO.alloc _) ⟨W.heap.size, 0, none⟩ 1 1 ys hx (by simpa using hy)
    (World.news_of_block (cs := ys.toArray) (t := e) (fr := (0, 0)) (heap_alloc_new W _)) h1 (by omega) (by simp only [maxLen]; omega) hl (by simp; omega) (W.heap.size + 1) (by simp) ?_
  intro g cap w1 hown hg hat _
  exact h _ _ w1 hown (World.grownBy.trans (World.grownBy_alloc W _ _) hg) (hat.imp id fun h => by omega)
/-- All but two blocks stay. -/
structure Kept2 (W W' : World) (rb : Nat) (row : Option Nat) : Prop where
  os : W'.os = W.os
  tape : W'.tape = W.tape
  output : W'.output = W.output
  size : W.heap.size ≤ W'.heap.size
  block : ∀ i, i < W.heap.size → i ≠ rb → row ≠ some i → W'.heap[i]? = W.heap[i]?
theorem set_grown1 (w : World) (b i : Nat) (v : Value) : w.grownBy (w.setCell ⟨b, i, none⟩ v) (some b) := ⟨rfl, rfl, rfl, by simp [World.setCell], fun k hk hne => by
  have : b ≠ k := fun e => hne (by rw [e])
  simp [World.setCell, Array.getElem?_modify, this]⟩
theorem info34 : (Tryz.prog.info? 34).map (fun i => (i.zero, i.size, i.bytes)) = some (some (.agg #[.slice none 0 0, I 0, I 0, .string ⟨#[]⟩]), 4, 56) := by kernel_rfl
theorem cell_of_heap {w : World} {b : Nat} {cs : Array Value} {t : TypeId} {fr : Nat × Nat} (h : w.heap[b]? = some (.cells cs t fr)) (i : Nat) (v : Value) (hv : cs[i]? = some v) : w.cell? ⟨b, i, none⟩ = some v := by
  rw [cell_of_row w b i cs t fr h]; exact hv
theorem free_of_heap {w : World} {b : Nat} {cs : Array Value} {t : TypeId} (h : w.heap[b]? = some (.cells cs t)) (i : Nat) : w.frozen? ⟨b, i, none⟩ = false := by
  unfold World.frozen?
  rw [show w.heap[(⟨b, i, none⟩ : Addr).block]? = some _ from h]
  simp
set_option maxRecDepth 20000 in
set_option maxHeartbeats 1000000 in
theorem take_ok (rb base n : Nat) (v Lv : Value) (xs : List Value) (V : Str) (t m : Int) (W : World) (hR : W.heap[rb]? = some (.cells #[v, I 0, I 0] 120)) (HO : W.ownsRow base 34 4 v n xs) (hn : n ≤ 1000000) (hne : v.ownBlock ≠ some rb) (hbase : base ≤ W.heap.size) (hLv : ∃ A k c, Lv = .slice A k c) :
    Calls Tryz.prog 68 #[.pointer (some ⟨rb, 0, none⟩), .agg #[Lv, I t, I m, .string V], I 0] W fun e w' => e = .returned (.bool true) ∧ ∃ v1, w'.heap[rb]? = some (.cells #[v1, I 0, I 0] 120) ∧ w'.ownsRow base 34 4 v1 (n + 1) (xs ++ [Lv, I t, I m, .string V])
      ∧ (v1.ownBlock = v.ownBlock ∨ ∃ k, v1.ownBlock = some k ∧ W.heap.size ≤ k) ∧ v1.ownBlock ≠ some rb ∧ Kept2 W w' rb v.ownBlock := by
  obtain ⟨LA, Lk, Lc, rfl⟩ := hLv
  have hB : Below W.heap.size W (W.alloc (.cells #[.slice LA Lk Lc, I t, I m, .string V] 34)) := (Below.refl _ _).alloc (Nat.le_refl _) _
  have hrl : rb < W.heap.size := (Array.getElem?_eq_some_iff.1 hR).1
  have hR1 : (W.alloc (.cells #[.slice LA Lk Lc, I t, I m, .string V] 34)).heap[rb]? = some (.cells #[v, I 0, I 0] 120) := (hB.block _ hrl).trans hR
  have HO1 := Lib.hid (own_below HO hB)
  have hv0 := cell_of_heap hR1 0 v rfl
  have d0 : (W.alloc (.cells #[.slice LA Lk Lc, I t, I m, .string V] 34)).cell? ⟨W.heap.size, 0, none⟩ = some (.slice LA Lk Lc) := by simp
  have d1 : (W.alloc (.cells #[.slice LA Lk Lc, I t, I m, .string V] 34)).cell? ⟨W.heap.size, 1, none⟩ = some (I t) := by simp
  have d2 : (W.alloc (.cells #[.slice LA Lk Lc, I t, I m, .string V] 34)).cell? ⟨W.heap.size, 2, none⟩ = some (I m) := by simp
  have d3 : (W.alloc (.cells #[.slice LA Lk Lc, I t, I m, .string V] 34)).cell? ⟨W.heap.size, 3, none⟩ = some (.string V) := by simp
  have hbl : W.heap.size < (W.alloc (.cells #[.slice LA Lk Lc, I t, I m, .string V] 34)).heap.size := by simp
  have HB := Lib.hid hB
  have HNE := Lib.hid hne
  have HOB := Lib.hid (fun k (h : v.ownBlock = some k) => (HO.lt k h).2)
  have HR1 := Lib.hid hR1
  clear hB hR hR1 HO hne
  go_enter Tryz.func68, Tryz.ntmps68
  go_wp2_with (fail)
  generalize W.alloc (.cells #[.slice LA Lk Lc, I t, I m, .string V] 34) = W1 at *
  have f0 := free_of_heap HR1.out 0
  have hv0' : (W1.alloc (.cells #[.slice LA Lk Lc, I t, I m, .string V] 34)).cell? ⟨rb, 0, none⟩ = some v := cell_keep ((Below.refl _ _).alloc (Nat.le_refl _) _) hv0
  go_region_law (refine app1sd base rfl _ _ 44 34 _ 4 56 rfl Tryz.underlying44 info34 rfl (by decide) (by decide) (own_below HO1.out (Below.refl _ _).drew) [.slice LA Lk Lc, I t, I m, .string V] rfl _ rfl rfl (by simp [Value.oneCell']) rfl (by have := HB.out.size; simp; omega) (by omega) ?_; intro gg cc w5 hown5 hgr5 hat5; have HO5 := Lib.hid hown5; clear hown5; have HT5 := Lib.hid hat5; clear hat5; have hf5 := (hgr5.frozen_far ⟨rb, 0, none⟩ (by simp; omega) (fun e => HNE.out e.symm)).trans f0; have hv5 := (hgr5.cell_far ⟨rb, 0, none⟩ (by simp; omega) (fun e => HNE.out e.symm)).trans hv0; have HG5 := Lib.hid hgr5; clear hgr5)
  all_goals
    go_wp2_with (fail)
    go_returns
    have hgr : gg ≠ rb := by
      rcases HT5.out with h | h
      · intro e; subst e; exact HNE.out h
      · intro e; subst e; simp at h; omega
    have h5 : w5.heap[rb]? = some (.cells #[v, I 0, I 0] 120) := (HG5.out.block rb (by simp; omega) (fun e => HNE.out e.symm)).trans HR1.out
    have hs := set_grown1 w5 rb 0 (.slice (some ⟨gg, 0, none⟩) (n + 1) cc)
    refine ⟨rfl, .slice (some ⟨gg, 0, none⟩) (n + 1) cc, ?_, HO5.out.kept hs (.inr fun e => hgr (by simpa [Value.ownBlock] using e)), ?_, fun e => hgr (by simpa [Value.ownBlock] using e), ?_⟩
    · simp [World.setCell, Array.getElem?_modify, h5]
    · rcases HT5.out with h | h
      · exact .inl h.symm
      · exact .inr ⟨gg, rfl, by simp at h; omega⟩
    · refine ⟨HG5.out.os.trans HB.out.os, HG5.out.tape.trans HB.out.tape, HG5.out.output.trans HB.out.output, Nat.le_trans HB.out.size (Nat.le_trans HG5.out.size hs.size), fun i hi h1 h2 => ?_⟩
      have hi1 : i < W1.heap.size := Nat.lt_of_lt_of_le hi HB.out.size
      exact (hs.block i (Nat.lt_of_lt_of_le hi1 HG5.out.size) (by simpa using h1)).trans ((HG5.out.block i hi1 (fun e => h2 e.symm)).trans (HB.out.block i hi))
set_option maxRecDepth 20000 in
set_option maxHeartbeats 1000000 in
theorem take_bad (rb base n : Nat) (v Lv : Value) (xs : List Value) (V : Str) (t m er : Int) (W : World) (hR : W.heap[rb]? = some (.cells #[v, I 0, I 0] 120)) (HO : W.ownsRow base 34 4 v n xs) (her : er ≠ 0) (hLv : ∃ A k c, Lv = .slice A k c) :
    Calls Tryz.prog 68 #[.pointer (some ⟨rb, 0, none⟩), .agg #[Lv, I t, I m, .string V], I er] W fun e w' => e = .returned (.bool false) ∧ w'.heap[rb]? = some (.cells #[.slice none 0 0, I n, I er] 120) ∧ Kept2 W w' rb none := by
  obtain ⟨LA, Lk, Lc, rfl⟩ := hLv
  obtain ⟨A, c, rfl, _⟩ := own_arr HO
  have hB : Below W.heap.size W (W.alloc (.cells #[.slice LA Lk Lc, I t, I m, .string V] 34)) := (Below.refl _ _).alloc (Nat.le_refl _) _
  have hrl : rb < W.heap.size := (Array.getElem?_eq_some_iff.1 hR).1
  have hR1 : (W.alloc (.cells #[.slice LA Lk Lc, I t, I m, .string V] 34)).heap[rb]? = some (.cells #[.slice A n c, I 0, I 0] 120) := (hB.block _ hrl).trans hR
  have hv0 : W.cell? ⟨rb, 0, none⟩ = some (.slice A n c) := cell_of_heap hR 0 _ rfl
  have hv1 : W.cell? ⟨rb, 1, none⟩ = some (I 0) := cell_of_heap hR 1 _ rfl
  have hv2 : W.cell? ⟨rb, 2, none⟩ = some (I 0) := cell_of_heap hR 2 _ rfl
  have f0 := free_of_heap hR 0
  have f1 := free_of_heap hR 1
  have f2 := free_of_heap hR 2
  have hb : (er != 0) = true := by simpa using her
  have HB := Lib.hid hB
  have HR1 := Lib.hid hR1
  have HR := Lib.hid hR
  clear hB hR hR1 HO her
  go_enter Tryz.func68, Tryz.ntmps68
  go_wp2_with (fail)
  go_returns
  have hs := fun (w : World) i v => set_grown1 w rb i v
  have hg := World.grownBy.trans (World.grownBy.trans (hs W 0 (.slice none 0 0)) (World.grownBy.trans (hs _ 1 (I n)) (hs _ 2 (I er)))) (World.grownBy_alloc _ (.cells #[.slice LA Lk Lc, I t, I m, .string V] 34) (some rb))
  refine ⟨rfl, ?_, ?_⟩
  · rw [Below.heap_alloc _ _ _ (by simpa [World.setCell] using hrl)]
    simp [World.setCell, Array.getElem?_modify, HR.out]
  · exact ⟨hg.os, hg.tape, hg.output, hg.size, fun i hi h1 _ => hg.block i hi (by simpa using h1)⟩
end Go.Proofs.YtabdldfigjkfaaaGreatDoor
