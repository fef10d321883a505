import Derived.Test.YtabdldfigjkfaaaGreatDoorF0
namespace Go.Proofs.YtabdldfigjkfaaaGreatDoor
open Go Go.RowKit

/-! op.Do. -/
theorem OpPost.cellk {W w' : World} {j g r : Nat} {o : Opr} {m' : KM} {L : List Int} {V : Val} (h : OpPost W w' j g r o m' L V) {a : Addr} {v : Value} (hc : W.cell? a = some v) (h1 : a.block ≠ r) (h2 : a.block ≠ j) : w'.cell? a = some v := by
  have := h.keep a.block (World.block_lt_of_cell? W _ hc) h1 h2
  unfold World.cell? at *
  rw [this]; exact hc
theorem OpPost.freek {W w' : World} {j g r : Nat} {o : Opr} {m' : KM} {L : List Int} {V : Val} (h : OpPost W w' j g r o m' L V) {a : Addr} {v : Value} (hc : W.cell? a = some v) (h1 : a.block ≠ r) (h2 : a.block ≠ j) (hf : W.frozen? a = false) : w'.frozen? a = false := by
  have := h.keep a.block (World.block_lt_of_cell? W _ hc) h1 h2
  unfold World.frozen? at *
  rw [this]; exact hf
theorem results_box {fn : Func} (h : fn.results = #[.cell 6 34, .tmp 7]) (tmps : Array Value) (w : World) (b : Nat) (v0 v1 v2 v3 : Value) (fr : Nat × Nat) (hp : tmps.getD 6 undef = .pointer (some ⟨b, 0, none⟩)) (hg : w.heap[b]? = some (.cells #[v0, v1, v2, v3] 34 fr)) :
    (results fn tmps).run Tryz.prog w = .ok (.tuple #[.agg #[v0, v1, v2, v3], tmps.getD 7 undef]) w := by
  rw [results_cell_tmp h, hp]
  have := run_loadVar_row (P := Tryz.prog) w b 34 34 #[v0, v1, v2, v3] fr _ hg Tryz.underlying34 rfl (by kernel_rfl)
  simp only [asAddr, Sem.run_pure, Result.andThen_ok, this]
theorem set4 (w : World) (b : Nat) (c0 c1 c2 c3 : Value) (fr : Nat × Nat) (hg : w.heap[b]? = some (.cells #[c0, c1, c2, c3] 34 fr)) (v0 v1 v2 v3 : Value) :
    ((((w.setCell ⟨b, 0, none⟩ v0).setCell ⟨b, 1, none⟩ v1).setCell ⟨b, 2, none⟩ v2).setCell ⟨b, 3, none⟩ v3).heap[b]? = some (.cells #[v0, v1, v2, v3] 34 fr) := by
  simp [World.setCell, Array.getElem?_modify, hg]
theorem set_grown (w : World) (b i : Nat) (v : Value) : w.grownBy (w.setCell ⟨b, i, none⟩ v) (some b) := ⟨rfl, rfl, rfl, by simp [World.setCell], fun k hk hne => by
  have : b ≠ k := fun e => hne (by rw [e])
  simp [World.setCell, Array.getElem?_modify, this]⟩
theorem set4_grown (w : World) (b : Nat) (v0 v1 v2 v3 : Value) : w.grownBy ((((w.setCell ⟨b, 0, none⟩ v0).setCell ⟨b, 1, none⟩ v1).setCell ⟨b, 2, none⟩ v2).setCell ⟨b, 3, none⟩ v3) (some b) :=
  World.grownBy.trans (World.grownBy.trans (World.grownBy.trans (set_grown _ _ _ _) (set_grown _ _ _ _)) (set_grown _ _ _ _)) (set_grown _ _ _ _)
theorem OpPost.grown {w W w' : World} {j g r : Nat} {o : Opr} {m' : KM} {L : List Int} {V : Val} (h : OpPost W w' j g r o m' L V) (hb : Below w.heap.size w W) (hj : w.heap.size ≤ j) : w.grownBy w' (some r) :=
  ⟨h.os.trans hb.os, h.tape.trans hb.tape, h.output.trans hb.output, Nat.le_trans hb.size h.size, fun i hi hne => (h.keep i (Nat.lt_of_lt_of_le hi hb.size) (fun e => hne (by rw [e])) (by omega)).trans (hb.block i hi)⟩
theorem grown_but {w w1 w2 : World} {r b : Nat} (h : w.grownBy w1 (some r)) (k : w1.grownBy w2 (some b)) (hb : w.heap.size ≤ b) : w.grownBy w2 (some r) :=
  ⟨k.os.trans h.os, k.tape.trans h.tape, k.output.trans h.output, Nat.le_trans h.size k.size, fun i hi hne => (k.block i (Nat.lt_of_lt_of_le hi h.size) (by simp; omega)).trans (h.block i hi hne)⟩
def doRes (m' : KM) (er room : Int) (L : List Int) (V : Val) : List Int × Val := if (if er ≠ 0 then er else if room < cntM m' then 3 else 0) = 0 then (L, V) else ([], noVal)
def doCode (m' : KM) (er room : Int) : Int := if er ≠ 0 then er else if room < cntM m' then 3 else 0
set_option maxRecDepth 20000 in
set_option maxHeartbeats 2000000 in
theorem do_c (f i : Nat) (o : Opr) (m m' : KM) (er : Int) (L : List Int) (V : Val) (room : Int) (w : World) (g r : Nat) (hG : GraphAt w g r m) (hf : Instr.findNow (.int .i64) (.int .i64 o.kind) (doesE 12).toList 0 = some (some (i, .func (.func f) #[] #[])))
    (eg : ∀ args w, (callFunc f args).run Tryz.prog w = .ok (.enter f args) w) (hop : OpIs f o m m' er L V) (hchk : chk o = true) (hS : (mget m' ck).size ≤ 1099511627776) :
    Calls Tryz.prog 17 #[sto g, I room, o.val] w fun e w' => ∃ Lv, e = .returned (.tuple #[.agg #[Lv, I (doRes m' er room L V).2.t, I (doRes m' er room L V).2.n, .string (doRes m' er room L V).2.s], I (doCode m' er room)]) ∧ w'.ownsRow w.heap.size 3 1 Lv (doRes m' er room L V).1.length ((doRes m' er room L V).1.map I) ∧ MapE w' r m' ∧ w.grownBy w' (some r) := by
  have HR := Lib.hid (show doRes m' er room L V = if doCode m' er room = 0 then (L, V) else ([], noVal) from rfl)
  have hW : Below w.heap.size w ((w.alloc (.cells #[I o.kind, I o.a, I o.b, I o.k, I o.v.t, I o.v.n, .string o.v.s, I o.w.t, I o.w.n, .string o.w.s] 26)).alloc (.cells #[.slice none 0 0, I 0, I 0, .string emp] 34)) := ((Below.refl _ _).alloc (Nat.le_refl _) _).alloc (by simp) _
  have b0 : ((w.alloc (.cells #[I o.kind, I o.a, I o.b, I o.k, I o.v.t, I o.v.n, .string o.v.s, I o.w.t, I o.w.n, .string o.w.s] 26)).alloc (.cells #[.slice none 0 0, I 0, I 0, .string emp] 34)).cell? ⟨w.heap.size, 0, none⟩ = some (I o.kind) := by simp
  have b1 : ((w.alloc (.cells #[I o.kind, I o.a, I o.b, I o.k, I o.v.t, I o.v.n, .string o.v.s, I o.w.t, I o.w.n, .string o.w.s] 26)).alloc (.cells #[.slice none 0 0, I 0, I 0, .string emp] 34)).cell? ⟨w.heap.size, 1, none⟩ = some (I o.a) := by simp
  have b2 : ((w.alloc (.cells #[I o.kind, I o.a, I o.b, I o.k, I o.v.t, I o.v.n, .string o.v.s, I o.w.t, I o.w.n, .string o.w.s] 26)).alloc (.cells #[.slice none 0 0, I 0, I 0, .string emp] 34)).cell? ⟨w.heap.size, 2, none⟩ = some (I o.b) := by simp
  have b3 : ((w.alloc (.cells #[I o.kind, I o.a, I o.b, I o.k, I o.v.t, I o.v.n, .string o.v.s, I o.w.t, I o.w.n, .string o.w.s] 26)).alloc (.cells #[.slice none 0 0, I 0, I 0, .string emp] 34)).cell? ⟨w.heap.size, 3, none⟩ = some (I o.k) := by simp
  have b4 : ((w.alloc (.cells #[I o.kind, I o.a, I o.b, I o.k, I o.v.t, I o.v.n, .string o.v.s, I o.w.t, I o.w.n, .string o.w.s] 26)).alloc (.cells #[.slice none 0 0, I 0, I 0, .string emp] 34)).cell? ⟨w.heap.size, 4, none⟩ = some (I o.v.t) := by simp
  have b5 : ((w.alloc (.cells #[I o.kind, I o.a, I o.b, I o.k, I o.v.t, I o.v.n, .string o.v.s, I o.w.t, I o.w.n, .string o.w.s] 26)).alloc (.cells #[.slice none 0 0, I 0, I 0, .string emp] 34)).cell? ⟨w.heap.size, 5, none⟩ = some (I o.v.n) := by simp
  have b6 : ((w.alloc (.cells #[I o.kind, I o.a, I o.b, I o.k, I o.v.t, I o.v.n, .string o.v.s, I o.w.t, I o.w.n, .string o.w.s] 26)).alloc (.cells #[.slice none 0 0, I 0, I 0, .string emp] 34)).cell? ⟨w.heap.size, 6, none⟩ = some (.string o.v.s) := by simp
  have b7 : ((w.alloc (.cells #[I o.kind, I o.a, I o.b, I o.k, I o.v.t, I o.v.n, .string o.v.s, I o.w.t, I o.w.n, .string o.w.s] 26)).alloc (.cells #[.slice none 0 0, I 0, I 0, .string emp] 34)).cell? ⟨w.heap.size, 7, none⟩ = some (I o.w.t) := by simp
  have b8 : ((w.alloc (.cells #[I o.kind, I o.a, I o.b, I o.k, I o.v.t, I o.v.n, .string o.v.s, I o.w.t, I o.w.n, .string o.w.s] 26)).alloc (.cells #[.slice none 0 0, I 0, I 0, .string emp] 34)).cell? ⟨w.heap.size, 8, none⟩ = some (I o.w.n) := by simp
  have b9 : ((w.alloc (.cells #[I o.kind, I o.a, I o.b, I o.k, I o.v.t, I o.v.n, .string o.v.s, I o.w.t, I o.w.n, .string o.w.s] 26)).alloc (.cells #[.slice none 0 0, I 0, I 0, .string emp] 34)).cell? ⟨w.heap.size, 9, none⟩ = some (.string o.w.s) := by simp
  have r0 : ((w.alloc (.cells #[I o.kind, I o.a, I o.b, I o.k, I o.v.t, I o.v.n, .string o.v.s, I o.w.t, I o.w.n, .string o.w.s] 26)).alloc (.cells #[.slice none 0 0, I 0, I 0, .string emp] 34)).cell? ⟨w.heap.size + 1, 0, none⟩ = some (.slice none 0 0) := by simp
  have r1 : ((w.alloc (.cells #[I o.kind, I o.a, I o.b, I o.k, I o.v.t, I o.v.n, .string o.v.s, I o.w.t, I o.w.n, .string o.w.s] 26)).alloc (.cells #[.slice none 0 0, I 0, I 0, .string emp] 34)).cell? ⟨w.heap.size + 1, 1, none⟩ = some (I 0) := by simp
  have r2 : ((w.alloc (.cells #[I o.kind, I o.a, I o.b, I o.k, I o.v.t, I o.v.n, .string o.v.s, I o.w.t, I o.w.n, .string o.w.s] 26)).alloc (.cells #[.slice none 0 0, I 0, I 0, .string emp] 34)).cell? ⟨w.heap.size + 1, 2, none⟩ = some (I 0) := by simp
  have r3 : ((w.alloc (.cells #[I o.kind, I o.a, I o.b, I o.k, I o.v.t, I o.v.n, .string o.v.s, I o.w.t, I o.w.n, .string o.w.s] 26)).alloc (.cells #[.slice none 0 0, I 0, I 0, .string emp] 34)).cell? ⟨w.heap.size + 1, 3, none⟩ = some (.string emp) := by simp
  have fr : ∀ i, ((w.alloc (.cells #[I o.kind, I o.a, I o.b, I o.k, I o.v.t, I o.v.n, .string o.v.s, I o.w.t, I o.w.n, .string o.w.s] 26)).alloc (.cells #[.slice none 0 0, I 0, I 0, .string emp] 34)).frozen? ⟨w.heap.size + 1, i, none⟩ = false := fun i => by simp
  have hck := opcheck_c o ((w.alloc (.cells #[I o.kind, I o.a, I o.b, I o.k, I o.v.t, I o.v.n, .string o.v.s, I o.w.t, I o.w.n, .string o.w.s] 26)).alloc (.cells #[.slice none 0 0, I 0, I 0, .string emp] 34))
  rw [hchk] at hck
  have HW := Lib.hid hW
  have HRL := Lib.hid hG.2.lt
  have HGL := Lib.hid hG.lt
  have HF := Lib.hid fr
  clear hW fr
  have hbl : w.heap.size + 1 < ((w.alloc (.cells #[I o.kind, I o.a, I o.b, I o.k, I o.v.t, I o.v.n, .string o.v.s, I o.w.t, I o.w.n, .string o.w.s] 26)).alloc (.cells #[.slice none 0 0, I 0, I 0, .string emp] 34)).heap.size := by simp
  go_enter Tryz.func17, Tryz.ntmps17
  go_wp2_with (go_at_call 52; refine hck.mono ?_; rintro e w1 ⟨rfl, hb1⟩; replace b0 := cell_keep hb1 b0; replace b1 := cell_keep hb1 b1; replace b2 := cell_keep hb1 b2; replace b3 := cell_keep hb1 b3; replace b4 := cell_keep hb1 b4; replace b5 := cell_keep hb1 b5; replace b6 := cell_keep hb1 b6; replace b7 := cell_keep hb1 b7; replace b8 := cell_keep hb1 b8; replace b9 := cell_keep hb1 b9; have HB1 := Lib.hid hb1; clear hb1)
  have hJ : (w1.alloc (.cells (jobCells g o (.slice none 0 0) noVal) 105)).heap[w1.heap.size]? = some (.cells (jobCells g o (.slice none 0 0) noVal) 105) := heap_alloc_new _ _
  have bk : (w1.alloc (.cells (jobCells g o (.slice none 0 0) noVal) 105)).cell? ⟨w.heap.size, 0, none⟩ = some (I o.kind) := cell_keep ((Below.refl _ _).alloc (Nat.le_refl _) _) b0
  have hG2 := ((hG.below HW.out).below HB1.out).below ((Below.refl w1.heap.size w1).alloc (Nat.le_refl _) (.cells (jobCells g o (.slice none 0 0) noVal) 105))
  have HJ := Lib.hid hJ
  have HG2 := Lib.hid hG2
  clear hJ hG hG2 b0 b1 b2 b3 b4 b5 b6 b7 b8 b9
  change Code.wp _ _ _ _ (w1.alloc (.cells (jobCells g o (.slice none 0 0) noVal) 105))
  generalize hW2 : w1.alloc (.cells (jobCells g o (.slice none 0 0) noVal) 105) = W2 at *
  have hlk := run_look107 (W2.alloc (.map (doesE 12) 12)).drew W2.heap.size (heap_alloc_new W2 (.map (doesE 12) 12)) o.kind i _ hf
  have hA3 : Below W2.heap.size W2 (W2.alloc (.map (doesE 12) 12)).drew := ((Below.refl _ _).alloc (Nat.le_refl _) _).drew
  have hG3 := HG2.out.below hA3
  have hJ3 : JobAt (W2.alloc (.map (doesE 12) 12)).drew w1.heap.size g o := (hA3.block w1.heap.size (by rw [← hW2]; simp)).trans HJ.out
  have hrl : r < w.heap.size := HRL.out
  have hw1 : w.heap.size + 1 < w1.heap.size := Nat.lt_of_lt_of_le hbl HB1.out.size
  have HG3 := Lib.hid hG3
  have HJ3 := Lib.hid hJ3
  have HA3 := Lib.hid hA3
  clear hG3 hJ3 hA3
  go_region_held3 (fun W' => W'.cell? ⟨w.heap.size, 0, none⟩ = some (I o.kind))
    (first | exact bk | exact cell_keep ((Below.refl _ _).alloc (Nat.le_refl _) _) (by assumption) | exact hp4.cellk (by assumption) (by simp; omega) (by simp; omega))
    (first
      | (go_at_call 55; refine (does_c _).mono ?_; rintro e w3 ⟨rfl, rfl⟩)
      | (go_at_fn f; refine (hop _ w1.heap.size g r ?_ ?_).mono ?_; (exact HG3.out); (exact HJ3.out); rintro e w4 ⟨rfl, hp4⟩))
  rename_i hH
  have HP4 := Lib.hid hp4
  have hA2 : Below w1.heap.size w1 W2 := by rw [← hW2]; exact (Below.refl _ _).alloc (Nat.le_refl _) _
  have hk : ∀ i v, ((w.alloc (.cells #[I o.kind, I o.a, I o.b, I o.k, I o.v.t, I o.v.n, .string o.v.s, I o.w.t, I o.w.n, .string o.w.s] 26)).alloc (.cells #[.slice none 0 0, I 0, I 0, .string emp] 34)).cell? ⟨w.heap.size + 1, i, none⟩ = some v → w4.cell? ⟨w.heap.size + 1, i, none⟩ = some v ∧ w4.frozen? ⟨w.heap.size + 1, i, none⟩ = false := fun i v h =>
    ⟨HP4.out.cellk (cell_keep HA3.out (cell_keep hA2 (cell_keep HB1.out h))) (by simp; omega) (by simp; omega),
     HP4.out.freek (cell_keep HA3.out (cell_keep hA2 (cell_keep HB1.out h))) (by simp; omega) (by simp; omega) (frozen_keep HA3.out (cell_keep hA2 (cell_keep HB1.out h)) (frozen_keep hA2 (cell_keep HB1.out h) (frozen_keep HB1.out h (HF.out i))))⟩
  have hbx0 : ((w.alloc (.cells #[I o.kind, I o.a, I o.b, I o.k, I o.v.t, I o.v.n, .string o.v.s, I o.w.t, I o.w.n, .string o.w.s] 26)).alloc (.cells #[.slice none 0 0, I 0, I 0, .string emp] 34)).heap[w.heap.size + 1]? = some (.cells #[.slice none 0 0, I 0, I 0, .string emp] 34) := by
    have := heap_alloc_new (w.alloc (.cells #[I o.kind, I o.a, I o.b, I o.k, I o.v.t, I o.v.n, .string o.v.s, I o.w.t, I o.w.n, .string o.w.s] 26)) (.cells #[.slice none 0 0, I 0, I 0, .string emp] 34)
    simpa using this
  have hbx : w4.heap[w.heap.size + 1]? = some (.cells #[.slice none 0 0, I 0, I 0, .string emp] 34) := by
    have l1 : w.heap.size + 1 < w1.heap.size := hw1
    have l2 : w.heap.size + 1 < W2.heap.size := Nat.lt_of_lt_of_le l1 hA2.size
    exact ((((HP4.out.keep (w.heap.size + 1) (Nat.lt_of_lt_of_le l2 HA3.out.size) (by omega) (by omega)).trans (HA3.out.block _ l2)).trans (hA2.block _ l1)).trans (HB1.out.block _ hbl)).trans hbx0
  have HBX := Lib.hid hbx
  have HGW := Lib.hid (HP4.out.grown (below_then (below_then (below_then HW.out HW.out.size HB1.out) (Nat.le_trans HW.out.size HB1.out.size) hA2) (Nat.le_trans (Nat.le_trans HW.out.size HB1.out.size) hA2.size) HA3.out) (by omega : w.heap.size ≤ w1.heap.size))
  clear hbx0 hbx
  obtain ⟨q0, z0⟩ := hk 0 _ r0
  obtain ⟨q1, z1⟩ := hk 1 _ r1
  obtain ⟨q2, z2⟩ := hk 2 _ r2
  obtain ⟨q3, z3⟩ := hk 3 _ r3
  have HA2 := Lib.hid hA2
  clear hlk hp4 hH r0 r1 r2 r3 hk hA2 bk
  by_cases he : er = 0
  · subst he
    obtain ⟨Lv, hjb, hown⟩ := HP4.out.job
    have hcell : ∀ (k : Nat) (x : Value), (jobCells g o Lv V)[k]? = some x → w4.cell? ⟨w1.heap.size, k, none⟩ = some x := fun k x hx => by
      rw [cell_of_row w4 w1.heap.size k _ 105 (0, 0) hjb]; exact hx
    have hG4 : GraphAt w4 g r m' := ⟨HP4.out.cellk HG3.out.1 (by have := HG3.out.ne; simpa using this) (by simp; have := HGL.out; omega), HP4.out.map⟩
    have hcn := count_c w1.heap.size g r m' w4 hG4 (hcell 0 (sto g) rfl) hS
    have j11 : w4.cell? ⟨w1.heap.size, 11, none⟩ = some Lv := hcell 11 _ rfl
    have j12 : w4.cell? ⟨w1.heap.size, 12, none⟩ = some (I V.t) := hcell 12 _ rfl
    have j13 : w4.cell? ⟨w1.heap.size, 13, none⟩ = some (I V.n) := hcell 13 _ rfl
    have j14 : w4.cell? ⟨w1.heap.size, 14, none⟩ = some (.string V.s) := hcell 14 _ rfl
    obtain ⟨LA, LC, rfl, _⟩ := own_arr hown
    have HOW := Lib.hid hown
    have HG4 := Lib.hid hG4
    clear hcell hjb hown hG4
    by_cases hr : room < cntM m'
    · have HC := Lib.hid (show doCode m' 0 room = 3 by unfold doCode; rw [if_neg (by simp), if_pos hr])
      generalize hcv : cntM m' = cv at *
      go_wp2_with (go_at_call 56; refine hcn.mono ?_; rintro e w5 ⟨rfl, hb5⟩; replace z0 := frozen_keep hb5 q0 z0; replace z1 := frozen_keep hb5 q1 z1; replace z2 := frozen_keep hb5 q2 z2; replace z3 := frozen_keep hb5 q3 z3; replace q0 := cell_keep hb5 q0; replace q1 := cell_keep hb5 q1; replace q2 := cell_keep hb5 q2; replace q3 := cell_keep hb5 q3; have HB5 := Lib.hid hb5; have HBX5 := Lib.hid ((hb5.block _ (Array.getElem?_eq_some_iff.1 HBX.out).1).trans HBX.out); clear hb5)
      try simp only [Exit.inBlock, Exit.then]
      refine bodyPost_ret (results_box rfl _ _ (w.heap.size + 1) _ _ _ _ (0, 0) rfl (set4 w5 (w.heap.size + 1) _ _ _ _ (0, 0) HBX5.out _ _ _ _)) rfl ?_
      have HV := HR.out
      rw [HC.out, if_neg (by decide)] at HV
      refine ⟨.slice none 0 0, ?_, ?_, ?_, grown_but (World.grownBy.trans HGW.out (grown_below HB5.out _)) (set4_grown w5 (w.heap.size + 1) _ _ _ _) (by omega)⟩
      · rw [HC.out, HV]; rfl
      · rw [HV]; exact World.ownsRow_nil _ _ _ _
      · exact (HG4.out.below HB5.out).2.keep ((set4_grown w5 (w.heap.size + 1) _ _ _ _).block r (HG4.out.below HB5.out).2.lt (by simp; omega))
    · have HC := Lib.hid (show doCode m' 0 room = 0 by unfold doCode; rw [if_neg (by simp), if_neg hr])
      generalize hcv : cntM m' = cv at *
      go_wp2_with (go_at_call 56; refine hcn.mono ?_; rintro e w5 ⟨rfl, hb5⟩; replace z0 := frozen_keep hb5 q0 z0; replace z1 := frozen_keep hb5 q1 z1; replace z2 := frozen_keep hb5 q2 z2; replace z3 := frozen_keep hb5 q3 z3; replace q0 := cell_keep hb5 q0; replace q1 := cell_keep hb5 q1; replace q2 := cell_keep hb5 q2; replace q3 := cell_keep hb5 q3; replace j11 := cell_keep hb5 j11; replace j12 := cell_keep hb5 j12; replace j13 := cell_keep hb5 j13; replace j14 := cell_keep hb5 j14; have HB5 := Lib.hid hb5; have HBX5 := Lib.hid ((hb5.block _ (Array.getElem?_eq_some_iff.1 HBX.out).1).trans HBX.out); clear hb5)
      try simp only [Exit.inBlock, Exit.then]
      refine bodyPost_ret (results_box rfl _ _ (w.heap.size + 1) _ _ _ _ (0, 0) rfl (set4 w5 (w.heap.size + 1) _ _ _ _ (0, 0) HBX5.out _ _ _ _)) rfl ?_
      have HV := HR.out
      rw [HC.out, if_pos rfl] at HV
      refine ⟨.slice LA L.length LC, ?_, ?_, ?_, grown_but (World.grownBy.trans HGW.out (grown_below HB5.out _)) (set4_grown w5 (w.heap.size + 1) _ _ _ _) (by omega)⟩
      · rw [HC.out, HV]; rfl
      · rw [HV]
        refine own_mono ((own_below HOW.out HB5.out).kept (set4_grown w5 (w.heap.size + 1) _ _ _ _) (.inr fun e => ?_)) ?_
        · have := own_base HOW.out _ e
          have h1 := HA3.out.size
          have h2 := HA2.out.size
          omega
        · exact Nat.le_trans (Nat.le_trans (by omega) HA2.out.size) HA3.out.size
      · exact (HG4.out.below HB5.out).2.keep ((set4_grown w5 (w.heap.size + 1) _ _ _ _).block r (HG4.out.below HB5.out).2.lt (by simp; omega))
  · have he' : (er != 0) = true := by simp [he]
    have HC := Lib.hid (show doCode m' er room = er by unfold doCode; rw [if_pos he])
    have her := he
    clear he
    go_wp2_with (fail)
    try simp only [Exit.inBlock, Exit.then]
    refine bodyPost_ret (results_box rfl _ _ (w.heap.size + 1) _ _ _ _ (0, 0) rfl (set4 w4 (w.heap.size + 1) _ _ _ _ (0, 0) HBX.out _ _ _ _)) rfl ?_
    have HV := HR.out
    rw [HC.out, if_neg her] at HV
    refine ⟨.slice none 0 0, ?_, ?_, ?_, grown_but HGW.out (set4_grown w4 (w.heap.size + 1) _ _ _ _) (by omega)⟩
    · rw [HC.out, HV]; rfl
    · rw [HV]; exact World.ownsRow_nil _ _ _ _
    · exact HP4.out.map.keep ((set4_grown w4 (w.heap.size + 1) _ _ _ _).block r HP4.out.map.lt (by simp; omega))
end Go.Proofs.YtabdldfigjkfaaaGreatDoor
