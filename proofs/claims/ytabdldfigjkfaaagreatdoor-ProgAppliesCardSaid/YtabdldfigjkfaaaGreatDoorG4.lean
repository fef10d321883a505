import Derived.Test.YtabdldfigjkfaaaGreatDoorG0
namespace Go.Proofs.YtabdldfigjkfaaaGreatDoor
open Go Go.RowKit

theorem Rel.len {x : List Wr} {m : KM} (h : Rel x m) : x.length = m.length := by
  have h1 : x.Nodup := List.Pairwise.imp (R := fun x y : Wr => x.k.lt y.k = true) (S := fun x y => x ≠ y) (fun h e => klt_ne h (by rw [e])) h.ss
  have h2 : (m.map wrOf).Nodup := by
    have := h.nd
    unfold Nd at this
    rw [← wrOf_keys] at this
    exact List.Pairwise.imp (R := fun a b : Wr => a.k ≠ b.k) (S := fun a b => a ≠ b) (fun h e => h (congrArg Wr.k e)) (List.pairwise_map.1 this)
  have hp : x.Perm (m.map wrOf) := (List.perm_ext_iff_of_nodup h1 h2).2 fun y => by
    rw [h.mem, List.mem_map]
    exact ⟨fun h => ⟨_, h, rfl⟩, fun ⟨p, hp, e⟩ => by subst e; exact hp⟩
  rw [hp.length_eq, List.length_map]
/-! A graph that is nil. -/
set_option maxHeartbeats 400000 in
theorem gput_nil (k : Key) (v : Str) (w : World) : Calls Tryz.prog 54 #[.pointer none, k.val, .string v] w fun e w' => e = .returned (.tuple #[]) ∧ Below w.heap.size w w' := by
  go_enter Tryz.func54, Tryz.ntmps54
  go_wp2
  all_goals
    go_end0
    exact ⟨rfl, (Below.refl _ _).alloc (Nat.le_refl _) _⟩
set_option maxRecDepth 20000 in
set_option maxHeartbeats 1000000 in
theorem papply_nil (l : List Wr) (A : Option Addr) (c : Nat) (w : World) (hA : Arr w A (l.flatMap Wr.cs)) (hl : l.length ≤ 1099511627776) :
    Calls Tryz.prog 26 #[.pointer none, .slice A l.length c] w fun e w' => e = .returned (.pointer none) ∧ Below w.heap.size w w' := by
  have HA := Lib.hid hA; clear hA
  have hcp := gcopy_nil w
  go_enter Tryz.func26, Tryz.ntmps26
  go_wp2_with (go_at_call 64; refine hcp.mono ?_; rintro e w0 ⟨rfl, hb0⟩; have HB0 := Lib.hid hb0; clear hb0)
  go_loopw [12] (fun i wr => ∃ n : Nat, n ≤ l.length ∧ i = .int .i64 n ∧ Below w.heap.size w wr) (fun i _ => l.length - (intOf i).toNat)
  case atStart => exact ⟨0, Nat.zero_le _, rfl, HB0.out⟩
  case round =>
    obtain ⟨n, hn, rfl, hb⟩ := hrel
    have HBel := Lib.hid hb; clear hb
    by_cases hlt : n < l.length
    · obtain ⟨b, o, rfl, hbz, d0, d1, d2, d3⟩ := HA.out.wr n hlt
      replace d0 := cell_keep HBel.out d0
      replace d1 := cell_keep HBel.out d1
      replace d2 := cell_keep HBel.out d2
      replace d3 := cell_keep HBel.out d3
      have hc := gput_nil l[n].k l[n].v (wr.alloc (.cells #[I l[n].k.kind, I l[n].k.a, I l[n].k.b, .string l[n].v] 100))
      go_wp2_with (go_at_call 54; refine hc.mono ?_; rintro e w1 ⟨rfl, hg1⟩; have HG1 := Lib.hid hg1; clear hg1)
      go_roundw
      case rel => exact ⟨n + 1, by omega, by go_num, below_then (HBel.out.alloc HBel.out.size _) (HBel.out.alloc HBel.out.size (.cells #[I l[n].k.kind, I l[n].k.a, I l[n].k.b, .string l[n].v] 100)).size HG1.out⟩
      case measure => simp [intOf]; omega
    · go_wp2
      go_ret
      exact ⟨rfl, HBel.out⟩
end Go.Proofs.YtabdldfigjkfaaaGreatDoor
