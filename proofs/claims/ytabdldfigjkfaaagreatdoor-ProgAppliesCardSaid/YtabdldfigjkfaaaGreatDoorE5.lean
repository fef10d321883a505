import Derived.Test.YtabdldfigjkfaaaGreatDoorE4
namespace Go.Proofs.YtabdldfigjkfaaaGreatDoor
open Go Go.RowKit

theorem frozen_keep {w w1 : World} (hb : Below w.heap.size w w1) {a : Addr} {v : Value} (h : w.cell? a = some v) (hf : w.frozen? a = false) : w1.frozen? a = false := by
  have := hb.block a.block (World.block_lt_of_cell? w _ h)
  unfold World.frozen? at *
  rw [this]; exact hf
set_option maxRecDepth 20000 in
set_option maxHeartbeats 1000000 in
theorem scan_c (j g r : Nat) (m : KM) (o : Opr) (w : World) (hG : GraphAt w g r m) (hj : w.cell? ⟨j, 0, none⟩ = some (sto g)) (hja : w.cell? ⟨j, 2, none⟩ = some (I o.a)) (L0 : Value) (hl : w.cell? ⟨j, 11, none⟩ = some L0) (hf : w.frozen? ⟨j, 11, none⟩ = false)
    (hs : (mget m ⟨5, o.a, 0⟩).size ≤ 1099511627776) :
    Calls Tryz.prog 105 #[ptr j] w fun e w' => e = .returned (I 0) ∧ ∃ v w1, w1.ownsRow w.heap.size 3 1 v (takeIds (mget m ⟨5, o.a, 0⟩)).1.length ((takeIds (mget m ⟨5, o.a, 0⟩)).1.map I) ∧ Below w.heap.size w w1 ∧ w' = w1.setCell ⟨j, 11, none⟩ v := by
  have hid := jids_c j g r m 5 o.a w hG hj hs
  clear hG
  go_enter Tryz.func105, Tryz.ntmps105
  go_wp2_with (go_at_call 169; refine hid.mono ?_; rintro e w1 ⟨v, rfl, ho1, hb1⟩; obtain ⟨A, c, rfl, _⟩ := own_arr ho1; have HO1 := Lib.hid ho1; have HB1 := Lib.hid hb1; replace hf := frozen_keep hb1 hl hf; replace hl := cell_keep hb1 hl; clear ho1 hb1)
  go_returns
  exact ⟨rfl, _, w1, HO1.out, HB1.out, rfl⟩
def doesE (n : Nat) : Array MapEntry := ((List.range n).map fun i => ({ key := .int .i64 ((i + 1 : Nat) : Int), val := .func (.func (98 + i)) #[] #[], born := i } : MapEntry)).toArray
theorem run_checkI (w : World) (e : Bool) (n : Int) : (Instr.checkKey e 10000 3 (.int .i64 n)).run Tryz.prog w = .ok () w := by
  show (Instr.checkKey e (9999 + 1) 3 (.int .i64 n)).run Tryz.prog w = .ok () w
  unfold Instr.checkKey
  simp only [Sem.run_bind, run_underlying Tryz.underlying3, Result.andThen_ok]
  rfl
theorem run_insert107 (w : World) (es : Array MapEntry) (c : Nat) (n : Int) (v : Value) (h : Instr.findNow (.int .i64) (.int .i64 n) es.toList 0 = some none) :
    (Instr.mapUpdate 107 (.map (some w.heap.size)) (.int .i64 n) v).run Tryz.prog (w.alloc (.map es c)) = .ok () (w.alloc (.map (es.push ⟨.int .i64 n, v, c⟩) (c + 1))) := by
  have hb : (w.alloc (.map es c)).heap[w.heap.size]? = some (.map es c) := heap_alloc_new w _
  simp only [Instr.mapUpdate, Sem.run_bind, run_underlying Tryz.underlying107, Result.andThen_ok, MapKept.run_getObj_map hb, run_checkI, Instr.findKey, run_underlying Tryz.underlying3, h, Sem.run_pure, MapKept.run_setObj_map _ hb]
  congr 1
  unfold World.alloc
  congr 1
  apply Array.ext_getElem?
  intro i
  simp only [Array.getElem?_setIfInBounds, Array.getElem?_push, Array.size_push]
  by_cases hi : w.heap.size = i
  · subst hi; simp
  · rw [if_neg hi, if_neg (Ne.symm hi), if_neg (Ne.symm hi)]
theorem run_look107 (w : World) (r : Nat) (hr : w.heap[r]? = some (.map (doesE 12) 12)) (n : Int) (i : Nat) (v : Value) (h : Instr.findNow (.int .i64) (.int .i64 n) (doesE 12).toList 0 = some (some (i, v))) :
    (Instr.lookup 107 (.map (some r)) (.int .i64 n) false).run Tryz.prog w = .ok v w := by
  simp only [Instr.lookup, Sem.run_bind, run_underlying Tryz.underlying107, Result.andThen_ok, MapKept.run_getObj_map hr, Sem.run_pure, run_checkI, Instr.findKey, run_underlying Tryz.underlying3, h]
  rfl
set_option maxRecDepth 20000 in
set_option maxHeartbeats 1000000 in
theorem does_c (w : World) : Calls Tryz.prog 55 #[] w fun e w' => e = .returned (.map (some w.heap.size)) ∧ w' = w.alloc (.map (doesE 12) 12) := by
  have hmm : (Instr.makeMap 107 none).run Tryz.prog w = .ok (.map (some w.heap.size)) (w.alloc (.map (doesE 0) 0)) := @run_makeMap Tryz.prog 107 w
  have h0 : (Instr.mapUpdate 107 (.map (some w.heap.size)) (.int .i64 1) (.func (.func 98) #[] #[])).run Tryz.prog (w.alloc (.map (doesE 0) 0)) = .ok () (w.alloc (.map (doesE 1) 1)) := run_insert107 w (doesE 0) 0 1 _ (by kernel_rfl)
  have h1 : (Instr.mapUpdate 107 (.map (some w.heap.size)) (.int .i64 2) (.func (.func 99) #[] #[])).run Tryz.prog (w.alloc (.map (doesE 1) 1)) = .ok () (w.alloc (.map (doesE 2) 2)) := run_insert107 w (doesE 1) 1 2 _ (by kernel_rfl)
  have h2 : (Instr.mapUpdate 107 (.map (some w.heap.size)) (.int .i64 3) (.func (.func 100) #[] #[])).run Tryz.prog (w.alloc (.map (doesE 2) 2)) = .ok () (w.alloc (.map (doesE 3) 3)) := run_insert107 w (doesE 2) 2 3 _ (by kernel_rfl)
  have h3 : (Instr.mapUpdate 107 (.map (some w.heap.size)) (.int .i64 4) (.func (.func 101) #[] #[])).run Tryz.prog (w.alloc (.map (doesE 3) 3)) = .ok () (w.alloc (.map (doesE 4) 4)) := run_insert107 w (doesE 3) 3 4 _ (by kernel_rfl)
  have h4 : (Instr.mapUpdate 107 (.map (some w.heap.size)) (.int .i64 5) (.func (.func 102) #[] #[])).run Tryz.prog (w.alloc (.map (doesE 4) 4)) = .ok () (w.alloc (.map (doesE 5) 5)) := run_insert107 w (doesE 4) 4 5 _ (by kernel_rfl)
  have h5 : (Instr.mapUpdate 107 (.map (some w.heap.size)) (.int .i64 6) (.func (.func 103) #[] #[])).run Tryz.prog (w.alloc (.map (doesE 5) 5)) = .ok () (w.alloc (.map (doesE 6) 6)) := run_insert107 w (doesE 5) 5 6 _ (by kernel_rfl)
  have h6 : (Instr.mapUpdate 107 (.map (some w.heap.size)) (.int .i64 7) (.func (.func 104) #[] #[])).run Tryz.prog (w.alloc (.map (doesE 6) 6)) = .ok () (w.alloc (.map (doesE 7) 7)) := run_insert107 w (doesE 6) 6 7 _ (by kernel_rfl)
  have h7 : (Instr.mapUpdate 107 (.map (some w.heap.size)) (.int .i64 8) (.func (.func 105) #[] #[])).run Tryz.prog (w.alloc (.map (doesE 7) 7)) = .ok () (w.alloc (.map (doesE 8) 8)) := run_insert107 w (doesE 7) 7 8 _ (by kernel_rfl)
  have h8 : (Instr.mapUpdate 107 (.map (some w.heap.size)) (.int .i64 9) (.func (.func 106) #[] #[])).run Tryz.prog (w.alloc (.map (doesE 8) 8)) = .ok () (w.alloc (.map (doesE 9) 9)) := run_insert107 w (doesE 8) 8 9 _ (by kernel_rfl)
  have h9 : (Instr.mapUpdate 107 (.map (some w.heap.size)) (.int .i64 10) (.func (.func 107) #[] #[])).run Tryz.prog (w.alloc (.map (doesE 9) 9)) = .ok () (w.alloc (.map (doesE 10) 10)) := run_insert107 w (doesE 9) 9 10 _ (by kernel_rfl)
  have h10 : (Instr.mapUpdate 107 (.map (some w.heap.size)) (.int .i64 11) (.func (.func 108) #[] #[])).run Tryz.prog (w.alloc (.map (doesE 10) 10)) = .ok () (w.alloc (.map (doesE 11) 11)) := run_insert107 w (doesE 10) 10 11 _ (by kernel_rfl)
  have h11 : (Instr.mapUpdate 107 (.map (some w.heap.size)) (.int .i64 12) (.func (.func 109) #[] #[])).run Tryz.prog (w.alloc (.map (doesE 11) 11)) = .ok () (w.alloc (.map (doesE 12) 12)) := run_insert107 w (doesE 11) 11 12 _ (by kernel_rfl)
  go_enter Tryz.func55, Tryz.ntmps55
  go_wp2
  go_returns
  exact ⟨rfl, rfl⟩
end Go.Proofs.YtabdldfigjkfaaaGreatDoor
