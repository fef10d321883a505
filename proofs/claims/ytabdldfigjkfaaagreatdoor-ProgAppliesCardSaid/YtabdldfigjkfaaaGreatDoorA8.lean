import Derived.Test.YtabdldfigjkfaaaGreatDoorA7
import Derived.Shelf.SlMaps.Clone
namespace Go.Proofs.YtabdldfigjkfaaaGreatDoor
open Go Go.RowKit

set_option maxRecDepth 20000 in
set_option maxHeartbeats 400000 in
theorem mclone_c (r : Nat) (m : KM) (w : World) (h : MapE w r m) :
    Calls Tryz.prog 119 #[.map (some r)] w fun e w' => e = .returned (.map (some w.heap.size)) ∧ MapE w' w.heap.size m ∧ Below w.heap.size w w' := by
  obtain ⟨es, c, hb, he⟩ := h
  have hq : ∀ w, (binOp .eql 96 (.map (some r)) (.map none)).run Tryz.prog w = .ok (.bool false) w := fun w => by kernel_rfl
  have HE := Lib.hid he
  have HBk := Lib.hid hb
  clear he hb
  go_enter Tryz.func119, Tryz.ntmps119
  go_wp2
  rw [run_callFunc_extern Tryz.func194 (by kernel_rfl) (by kernel_rfl) (by kernel_rfl) (e := Extern.MapsClone.clone) (by kernel_rfl), run_maps_clone_sl w 96 HBk.out]
  simp only [Result.andThen]
  rw [Oper.upon_value]
  go_wp2
  rw [run_typeAssert_map_sl _ 96 20 _ _ _ Tryz.underlying96]
  simp only [Result.andThen]
  rw [Oper.upon_value]
  go_wp2
  go_ret
  exact ⟨rfl, ⟨es, c, heap_alloc_new w _, HE.out⟩, (Below.refl _ _).alloc (Nat.le_refl _) _⟩

set_option maxRecDepth 20000 in
set_option maxHeartbeats 400000 in
theorem gcopy_c (g r : Nat) (m : KM) (w : World) (h : GraphAt w g r m) :
    Calls Tryz.prog 64 #[ptr g] w fun e w' => ∃ g' r', e = .returned (ptr g') ∧ GraphAt w' g' r' m ∧ w.heap.size ≤ g' ∧ w.heap.size ≤ r' ∧ Below w.heap.size w w' := by
  obtain ⟨hc, hm⟩ := h
  have hcl := mclone_c r m w hm
  clear hm
  go_enter Tryz.func64, Tryz.ntmps64
  go_wp2_with (go_at_call 119; refine hcl.mono ?_; rintro e w1 ⟨rfl, h1, hb1⟩; have H1 := Lib.hid h1; have HB1 := Lib.hid hb1; clear h1 hb1)
  go_ret
  have hB := (Below.refl w1.heap.size w1).alloc (Nat.le_refl _) (.cells #[.map (some w.heap.size)] 98)
  exact ⟨_, _, rfl, ⟨by simp, H1.out.below hB⟩, HB1.out.size, Nat.le_refl _, below_then HB1.out HB1.out.size hB⟩
theorem gcopy_nil (w : World) : Calls Tryz.prog 64 #[.pointer none] w fun e w' => e = .returned (.pointer none) ∧ Below w.heap.size w w' := by
  go_enter Tryz.func64, Tryz.ntmps64
  go_wp2
  go_ret
  exact ⟨rfl, Below.refl _ _⟩

set_option maxRecDepth 20000 in
set_option maxHeartbeats 1000000 in
theorem papply_c (l : List Wr) (A : Option Addr) (c : Nat) (g r : Nat) (m : KM) (w : World) (hG : GraphAt w g r m) (hA : Arr w A (l.flatMap Wr.cs)) (hl : l.length ≤ 1099511627776) :
    Calls Tryz.prog 26 #[ptr g, .slice A l.length c] w fun e w' => ∃ g' r', e = .returned (ptr g') ∧ GraphAt w' g' r' (applyM m l) ∧ w.heap.size ≤ g' ∧ w.heap.size ≤ r' ∧ Below w.heap.size w w' := by
  have HA := Lib.hid hA; clear hA
  have hcp := gcopy_c g r m w hG
  clear hG
  go_enter Tryz.func26, Tryz.ntmps26
  go_wp2_with (go_at_call 64; refine hcp.mono ?_; rintro e w0 ⟨g', r', rfl, hg0, hsg, hsr, hb0⟩; have HG0 := Lib.hid hg0; have HB0 := Lib.hid hb0; clear hg0 hb0)
  go_loopw [12] (fun i wr => ∃ n : Nat, n ≤ l.length ∧ i = .int .i64 n ∧ GraphAt wr g' r' (applyM m (l.take n)) ∧ Below w.heap.size w wr) (fun i _ => l.length - (intOf i).toNat)
  case atStart => exact ⟨0, Nat.zero_le _, rfl, HG0.out, HB0.out⟩
  case round =>
    obtain ⟨n, hn, rfl, hgr, hb⟩ := hrel
    have HBel := Lib.hid hb; clear hb
    by_cases hlt : n < l.length
    · obtain ⟨b, o, rfl, hbz, d0, d1, d2, d3⟩ := HA.out.wr n hlt
      replace d0 := cell_keep HBel.out d0
      replace d1 := cell_keep HBel.out d1
      replace d2 := cell_keep HBel.out d2
      replace d3 := cell_keep HBel.out d3
      have hc := gput_c g' r' (applyM m (l.take n)) l[n].k l[n].v (wr.alloc (.cells #[I l[n].k.kind, I l[n].k.a, I l[n].k.b, .string l[n].v] 100)) (hgr.below ((Below.refl _ _).alloc (Nat.le_refl _) _))
      have HS := Lib.hid (applyM_take m l n hlt)
      have HG := Lib.hid hgr
      clear hgr
      go_wp2_with (go_at_call 54; refine hc.mono ?_; rintro e w1 ⟨rfl, h1, hg1⟩; have H1 := Lib.hid h1; have HG1 := Lib.hid hg1; clear h1 hg1)
      go_roundw
      case rel =>
        have hB1 : Below w.heap.size w (wr.alloc (.cells #[I l[n].k.kind, I l[n].k.a, I l[n].k.b, .string l[n].v] 100)) := HBel.out.alloc HBel.out.size _
        refine ⟨n + 1, by omega, by go_num, ?_, hB1.grown HG1.out hB1.size (fun k hk => by cases hk; exact hsr)⟩
        rw [HS.out]
        exact (HG.out.below ((Below.refl _ _).alloc (Nat.le_refl _) _)).put HG1.out H1.out
      case measure => simp [intOf]; omega
    · obtain rfl : n = l.length := by omega
      rw [List.take_length] at hgr
      have HG := Lib.hid hgr
      clear hgr
      go_wp2
      go_ret
      exact ⟨_, _, rfl, HG.out, hsg, hsr, HBel.out⟩
end Go.Proofs.YtabdldfigjkfaaaGreatDoor
