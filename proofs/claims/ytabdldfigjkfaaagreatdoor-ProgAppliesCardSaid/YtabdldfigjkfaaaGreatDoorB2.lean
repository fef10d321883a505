import Derived.Test.YtabdldfigjkfaaaGreatDoorB1
namespace Go.Proofs.YtabdldfigjkfaaaGreatDoor
open Go Go.RowKit

set_option maxHeartbeats 400000 in
theorem wcmp59_c (x y : Wr) (w : World) : Calls Tryz.prog 59 #[x.val, y.val] w fun e w' => e = .returned (I (wcmp x y)) ∧ Gr w w' := by
  have hB : Gr w ((w.alloc (.cells #[I x.k.kind, I x.k.a, I x.k.b, .string x.v] 100)).alloc (.cells #[I y.k.kind, I y.k.a, I y.k.b, .string y.v] 100)) := (Gr.alloc w _).trans (Gr.alloc _ _)
  have HB := Lib.hid hB; clear hB
  by_cases h : x.k.lt y.k = true
  · have e : wcmp x y = -1 := by unfold wcmp; rw [if_pos h]
    have E := Lib.hid e; clear e
    go_enter Tryz.func59, Tryz.ntmps59
    go_wp2_with (go_at_call 60; refine (less_g x.k y.k _).mono ?_; rw [h]; rintro e w1 ⟨rfl, hb1⟩; have HB1 := Lib.hid hb1; clear hb1)
    go_ret
    exact ⟨by rw [E.out]; rfl, HB.out.trans HB1.out⟩
  · have e : wcmp x y = 1 := by unfold wcmp; rw [if_neg h]
    have h : x.k.lt y.k = false := by simpa using h
    have E := Lib.hid e; clear e
    go_enter Tryz.func59, Tryz.ntmps59
    go_wp2_with (go_at_call 60; refine (less_g x.k y.k _).mono ?_; rw [h]; rintro e w1 ⟨rfl, hb1⟩; have HB1 := Lib.hid hb1; clear hb1)
    go_ret
    exact ⟨by rw [E.out]; rfl, HB.out.trans HB1.out⟩
set_option maxHeartbeats 400000 in
theorem wcmp66_c (x y : Wr) (w : World) : Calls Tryz.prog 66 #[x.val, y.val] w fun e w' => e = .returned (I (wcmp x y)) ∧ Gr w w' := by
  have hB : Gr w ((w.alloc (.cells #[I x.k.kind, I x.k.a, I x.k.b, .string x.v] 100)).alloc (.cells #[I y.k.kind, I y.k.a, I y.k.b, .string y.v] 100)) := (Gr.alloc w _).trans (Gr.alloc _ _)
  have HB := Lib.hid hB; clear hB
  by_cases h : x.k.lt y.k = true
  · have e : wcmp x y = -1 := by unfold wcmp; rw [if_pos h]
    have E := Lib.hid e; clear e
    go_enter Tryz.func66, Tryz.ntmps66
    go_wp2_with (go_at_call 60; refine (less_g x.k y.k _).mono ?_; rw [h]; rintro e w1 ⟨rfl, hb1⟩; have HB1 := Lib.hid hb1; clear hb1)
    go_ret
    exact ⟨by rw [E.out]; rfl, HB.out.trans HB1.out⟩
  · have e : wcmp x y = 1 := by unfold wcmp; rw [if_neg h]
    have h : x.k.lt y.k = false := by simpa using h
    have E := Lib.hid e; clear e
    go_enter Tryz.func66, Tryz.ntmps66
    go_wp2_with (go_at_call 60; refine (less_g x.k y.k _).mono ?_; rw [h]; rintro e w1 ⟨rfl, hb1⟩; have HB1 := Lib.hid hb1; clear hb1)
    go_ret
    exact ⟨by rw [E.out]; rfl, HB.out.trans HB1.out⟩
end Go.Proofs.YtabdldfigjkfaaaGreatDoor
