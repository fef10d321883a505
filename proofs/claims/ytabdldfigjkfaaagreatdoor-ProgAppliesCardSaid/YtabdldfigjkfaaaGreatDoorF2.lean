import Derived.Test.YtabdldfigjkfaaaGreatDoorF1
namespace Go.Proofs.YtabdldfigjkfaaaGreatDoor
open Go Go.RowKit

/-! op.Do at what is no op. -/
set_option maxRecDepth 20000 in
set_option maxHeartbeats 1000000 in
theorem dobad_c (o : Opr) (s : Value) (room : Int) (w : World) (hchk : chk o = false) :
    Calls Tryz.prog 17 #[s, I room, o.val] w fun e w' => e = .returned (.tuple #[.agg #[.slice none 0 0, I 0, I 0, .string emp], I 1]) ∧ Below w.heap.size w w' := by
  have hW : Below w.heap.size w ((w.alloc (.cells #[I o.kind, I o.a, I o.b, I o.k, I o.v.t, I o.v.n, .string o.v.s, I o.w.t, I o.w.n, .string o.w.s] 26)).alloc (.cells #[.slice none 0 0, I 0, I 0, .string emp] 34)) := ((Below.refl _ _).alloc (Nat.le_refl _) _).alloc (by simp) _
  have r0 : ((w.alloc (.cells #[I o.kind, I o.a, I o.b, I o.k, I o.v.t, I o.v.n, .string o.v.s, I o.w.t, I o.w.n, .string o.w.s] 26)).alloc (.cells #[.slice none 0 0, I 0, I 0, .string emp] 34)).cell? ⟨w.heap.size + 1, 0, none⟩ = some (.slice none 0 0) := by simp
  have r1 : ((w.alloc (.cells #[I o.kind, I o.a, I o.b, I o.k, I o.v.t, I o.v.n, .string o.v.s, I o.w.t, I o.w.n, .string o.w.s] 26)).alloc (.cells #[.slice none 0 0, I 0, I 0, .string emp] 34)).cell? ⟨w.heap.size + 1, 1, none⟩ = some (I 0) := by simp
  have r2 : ((w.alloc (.cells #[I o.kind, I o.a, I o.b, I o.k, I o.v.t, I o.v.n, .string o.v.s, I o.w.t, I o.w.n, .string o.w.s] 26)).alloc (.cells #[.slice none 0 0, I 0, I 0, .string emp] 34)).cell? ⟨w.heap.size + 1, 2, none⟩ = some (I 0) := by simp
  have r3 : ((w.alloc (.cells #[I o.kind, I o.a, I o.b, I o.k, I o.v.t, I o.v.n, .string o.v.s, I o.w.t, I o.w.n, .string o.w.s] 26)).alloc (.cells #[.slice none 0 0, I 0, I 0, .string emp] 34)).cell? ⟨w.heap.size + 1, 3, none⟩ = some (.string emp) := by simp
  have z0 : ((w.alloc (.cells #[I o.kind, I o.a, I o.b, I o.k, I o.v.t, I o.v.n, .string o.v.s, I o.w.t, I o.w.n, .string o.w.s] 26)).alloc (.cells #[.slice none 0 0, I 0, I 0, .string emp] 34)).frozen? ⟨w.heap.size + 1, 0, none⟩ = false := by simp
  have z1 : ((w.alloc (.cells #[I o.kind, I o.a, I o.b, I o.k, I o.v.t, I o.v.n, .string o.v.s, I o.w.t, I o.w.n, .string o.w.s] 26)).alloc (.cells #[.slice none 0 0, I 0, I 0, .string emp] 34)).frozen? ⟨w.heap.size + 1, 1, none⟩ = false := by simp
  have z2 : ((w.alloc (.cells #[I o.kind, I o.a, I o.b, I o.k, I o.v.t, I o.v.n, .string o.v.s, I o.w.t, I o.w.n, .string o.w.s] 26)).alloc (.cells #[.slice none 0 0, I 0, I 0, .string emp] 34)).frozen? ⟨w.heap.size + 1, 2, none⟩ = false := by simp
  have z3 : ((w.alloc (.cells #[I o.kind, I o.a, I o.b, I o.k, I o.v.t, I o.v.n, .string o.v.s, I o.w.t, I o.w.n, .string o.w.s] 26)).alloc (.cells #[.slice none 0 0, I 0, I 0, .string emp] 34)).frozen? ⟨w.heap.size + 1, 3, none⟩ = false := by simp
  have hbx : ((w.alloc (.cells #[I o.kind, I o.a, I o.b, I o.k, I o.v.t, I o.v.n, .string o.v.s, I o.w.t, I o.w.n, .string o.w.s] 26)).alloc (.cells #[.slice none 0 0, I 0, I 0, .string emp] 34)).heap[w.heap.size + 1]? = some (.cells #[.slice none 0 0, I 0, I 0, .string emp] 34) := by
    have := heap_alloc_new (w.alloc (.cells #[I o.kind, I o.a, I o.b, I o.k, I o.v.t, I o.v.n, .string o.v.s, I o.w.t, I o.w.n, .string o.w.s] 26)) (.cells #[.slice none 0 0, I 0, I 0, .string emp] 34)
    simpa using this
  have hck := opcheck_c o ((w.alloc (.cells #[I o.kind, I o.a, I o.b, I o.k, I o.v.t, I o.v.n, .string o.v.s, I o.w.t, I o.w.n, .string o.w.s] 26)).alloc (.cells #[.slice none 0 0, I 0, I 0, .string emp] 34))
  rw [hchk] at hck
  have HW := Lib.hid hW
  have HBX := Lib.hid hbx
  clear hW hbx
  go_enter Tryz.func17, Tryz.ntmps17
  go_wp2_with (go_at_call 52; refine hck.mono ?_; rintro e w1 ⟨rfl, hb1⟩; replace z0 := frozen_keep hb1 r0 z0; replace r0 := cell_keep hb1 r0; replace z1 := frozen_keep hb1 r1 z1; replace r1 := cell_keep hb1 r1; replace z2 := frozen_keep hb1 r2 z2; replace r2 := cell_keep hb1 r2; replace z3 := frozen_keep hb1 r3 z3; replace r3 := cell_keep hb1 r3; have HB1 := Lib.hid hb1; have HBX1 := Lib.hid ((hb1.block _ (Array.getElem?_eq_some_iff.1 HBX.out).1).trans HBX.out); clear hb1)
  try simp only [Exit.inBlock, Exit.then]
  refine bodyPost_ret (results_box rfl _ _ (w.heap.size + 1) _ _ _ _ (0, 0) rfl (set4 w1 (w.heap.size + 1) _ _ _ _ (0, 0) HBX1.out _ _ _ _)) rfl ?_
  exact ⟨rfl, (below_then HW.out HW.out.size HB1.out).grown (set4_grown w1 (w.heap.size + 1) _ _ _ _) (Nat.le_trans HW.out.size HB1.out.size) (fun k hk => by injection hk with hk; omega)⟩
end Go.Proofs.YtabdldfigjkfaaaGreatDoor
