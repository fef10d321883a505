import Derived.Test.YtabdldfigjkfaaaGreatDoorE5
namespace Go.Proofs.YtabdldfigjkfaaaGreatDoor
open Go Go.RowKit

/-! What an op does, as Do sees it. -/
def jobCells (g : Nat) (o : Opr) (Lv : Value) (V : Val) : Array Value := #[sto g, I o.kind, I o.a, I o.b, I o.k, I o.v.t, I o.v.n, .string o.v.s, I o.w.t, I o.w.n, .string o.w.s, Lv, I V.t, I V.n, .string V.s]
def noVal : Val := ⟨0, 0, emp⟩
def JobAt (w : World) (j g : Nat) (o : Opr) : Prop := w.heap[j]? = some (.cells (jobCells g o (.slice none 0 0) noVal) 105)
structure OpPost (W w' : World) (j g r : Nat) (o : Opr) (m' : KM) (L : List Int) (V : Val) : Prop where
  os : w'.os = W.os
  tape : w'.tape = W.tape
  output : w'.output = W.output
  size : W.heap.size ≤ w'.heap.size
  keep : ∀ i, i < W.heap.size → i ≠ r → i ≠ j → w'.heap[i]? = W.heap[i]?
  map : MapE w' r m'
  job : ∃ Lv, w'.heap[j]? = some (.cells (jobCells g o Lv V) 105) ∧ w'.ownsRow W.heap.size 3 1 Lv L.length (L.map I)
/-- Function f, as an op at o on m: tells er, leaves m', L, V. -/
def OpIs (f : Nat) (o : Opr) (m m' : KM) (er : Int) (L : List Int) (V : Val) : Prop :=
  ∀ (W : World) (j g r : Nat), GraphAt W g r m → JobAt W j g o → Calls Tryz.prog f #[ptr j] W fun e w' => e = .returned (I er) ∧ OpPost W w' j g r o m' L V
theorem JobAt.cell {w : World} {j g : Nat} {o : Opr} (h : JobAt w j g o) (i : Nat) (v : Value) (hv : (jobCells g o (.slice none 0 0) noVal)[i]? = some v) : w.cell? ⟨j, i, none⟩ = some v := by
  unfold World.cell?
  rw [show w.heap[(⟨j, i, none⟩ : Addr).block]? = some _ from h]
  exact hv
theorem JobAt.free {w : World} {j g : Nat} {o : Opr} (h : JobAt w j g o) (i : Nat) : w.frozen? ⟨j, i, none⟩ = false := by
  unfold World.frozen?
  rw [show w.heap[(⟨j, i, none⟩ : Addr).block]? = some _ from h]
  simp
theorem node_is (m : KM) (o : Opr) (b : Nat) (hS : Sz b m) (hb : 4 ≤ b) (hb2 : b ≤ 1099511620000) : OpIs 98 o m (nodeM m o).1 (nodeM m o).2 [] noVal := by
  intro W j g r hG hJ
  have hj := hJ.cell 0 (sto g) rfl
  have hne := mapE_ne hG.2 hj
  refine (node_c j g r m o W b hS hb hb2 hG hj (hJ.cell 2 _ rfl) (hJ.cell 3 _ rfl)).mono ?_
  rintro e w' ⟨he, hm, hg⟩
  refine ⟨he, hg.os, hg.tape, hg.output, hg.size, fun i hi h1 _ => hg.block i hi (by simp; exact fun e => h1 e), hm, ?_⟩
  exact ⟨_, (hg.block j (World.block_lt_of_cell? W _ hj) (by simp; exact hne)).trans hJ, World.ownsRow_nil _ _ _ _⟩
theorem scan_is (m : KM) (o : Opr) (hs : (mget m ⟨5, o.a, 0⟩).size ≤ 1099511627776) : OpIs 105 o m m 0 (takeIds (mget m ⟨5, o.a, 0⟩)).1 noVal := by
  intro W j g r hG hJ
  have hj := hJ.cell 0 (sto g) rfl
  have hjl : j < W.heap.size := World.block_lt_of_cell? W _ hj
  have hne := mapE_ne hG.2 hj
  refine (scan_c j g r m o W hG hj (hJ.cell 2 _ rfl) _ (hJ.cell 11 _ rfl) (hJ.free 11) hs).mono ?_
  rintro e w' ⟨he, v, w1, ho, hb, rfl⟩
  have hj1 : w1.heap[j]? = some (.cells (jobCells g o (.slice none 0 0) noVal) 105) := (hb.block j hjl).trans hJ
  have hjl1 : j < w1.heap.size := Nat.lt_of_lt_of_le hjl hb.size
  have hgr : w1.grownBy (w1.setCell ⟨j, 11, none⟩ v) (some j) := ⟨rfl, rfl, rfl, by simp [World.setCell], fun i hi hne => by
    have : j ≠ i := fun e => hne (by rw [e])
    simp [World.setCell, Array.getElem?_modify, this]⟩
  refine ⟨he, hb.os, hb.tape, hb.output, Nat.le_trans hb.size hgr.size, fun i hi _ h2 => (hgr.block i (Nat.lt_of_lt_of_le hi hb.size) (by simp; exact fun e => h2 e)).trans (hb.block i hi), ?_, v, ?_, ?_⟩
  · exact (hG.2.below hb).keep (hgr.block r (Nat.lt_of_lt_of_le hG.2.lt hb.size) (by simp; exact fun e => hne e.symm))
  · simp [World.setCell, Array.getElem?_modify, hj1, jobCells]
  · exact ho.kept hgr (.inr fun e => by have := own_base ho _ e; omega)
end Go.Proofs.YtabdldfigjkfaaaGreatDoor
