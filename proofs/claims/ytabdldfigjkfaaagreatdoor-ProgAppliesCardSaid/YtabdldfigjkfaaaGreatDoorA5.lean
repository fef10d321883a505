import Derived.Test.YtabdldfigjkfaaaGreatDoorA4
namespace Go.Proofs.YtabdldfigjkfaaaGreatDoor
open Go Go.RowKit

set_option maxHeartbeats 1000000 in
set_option maxRecDepth 20000 in
theorem apply16_c (g l : List Wr) (G A : Option Addr) (d c : Nat) (w : World) (hG : Arr w G (g.flatMap Wr.cs)) (hA : Arr w A (l.flatMap Wr.cs)) (hg : g.length ≤ 549755813888) (hl : l.length ≤ 549755813888) :
    Calls Tryz.prog 30 #[.slice G g.length d, .slice A l.length c] w fun e w' => ∃ A' c', e = .returned (.slice A' (applyW g l).length c') ∧ Arr w' A' ((applyW g l).flatMap Wr.cs) ∧ Below w.heap.size w w' := by
  have HA := Lib.hid hA; clear hA
  have HG := Lib.hid hG; clear hG
  go_enter Tryz.func30, Tryz.ntmps30
  go_wp2
  go_loopw [0, 5] (fun o i wr => ∃ n : Nat, n ≤ l.length ∧ i = .int .i64 n ∧ (∃ A' c', o = .slice A' (applyW g (l.take n)).length c' ∧ Arr wr A' ((applyW g (l.take n)).flatMap Wr.cs)) ∧ Below w.heap.size w wr) (fun _ i _ => l.length - (intOf i).toNat)
  case atStart => exact ⟨0, Nat.zero_le _, rfl, ⟨G, d, rfl, HG.out⟩, Below.refl _ _⟩
  case round =>
    obtain ⟨n, hn, rfl, ⟨A', c', rfl, hArr⟩, hb⟩ := hrel
    have HBel := Lib.hid hb; clear hb
    by_cases hlt : n < l.length
    · obtain ⟨b, o, rfl, hbz, d0, d1, d2, d3⟩ := HA.out.wr n hlt
      replace d0 := cell_keep HBel.out d0
      replace d1 := cell_keep HBel.out d1
      replace d2 := cell_keep HBel.out d2
      replace d3 := cell_keep HBel.out d3
      have hlen := applyW_len g (l.take n)
      rw [List.length_take, Nat.min_eq_left hn] at hlen
      have hc := put14_c (applyW g (l.take n)) A' c' l[n].k l[n].v wr.drew hArr (by omega)
      have hs := Lib.hid (applyW_take g l n hlt)
      clear hArr hlen
      go_wp2
      go_still_tail 11, (by kernel_rfl)
      change wpList _ _ _ _ _ wr.drew
      go_wp2_with (go_at_call 67; refine hc.mono ?_; rintro e w1 ⟨s, rfl, ho1, hb1⟩; have HO1 := Lib.hid ho1; have HB1 := Lib.hid hb1; clear ho1 hb1)
      go_roundw
      case rel =>
        obtain ⟨A2, c2, he, ha⟩ := own_arr HO1.out
        exact ⟨n + 1, by omega, by go_num, ⟨A2, c2, by rw [hs.out]; exact he, by rw [hs.out]; exact ha⟩, below_dthen HBel.out HBel.out.size HB1.out⟩
      case measure => simp [intOf]; omega
    · obtain rfl : n = l.length := by omega
      have HO := Lib.hid hArr; clear hArr
      go_wp2
      go_ret
      exact ⟨A', c', by rw [List.take_length]; rfl, by have := HO.out; rwa [List.take_length] at this, HBel.out⟩

theorem writes16_c (l m : List Wr) (A B : Option Addr) (c d : Nat) (w : World) (hA : Arr w A (l.flatMap Wr.cs)) (hB : Arr w B (m.flatMap Wr.cs)) (hl : l.length ≤ 1099511627776) (hm : m.length ≤ 1099511627776) :
    Calls Tryz.prog 27 #[.slice A l.length c, .slice B m.length d] w fun e w' => e = .returned (.bool (decide (l = m))) ∧ Below w.heap.size w w' := by
  have hc := writes11_c l m A B c d w hA hB hl hm
  clear hA hB
  go_enter Tryz.func27, Tryz.ntmps27
  go_wp2_with (go_at_call 57; refine hc.mono ?_; rintro e w1 ⟨rfl, hb1⟩; have HB1 := Lib.hid hb1; clear hb1)
  go_ret
  exact ⟨rfl, HB1.out⟩
theorem cells15_c (l m : List Wr) (A B : Option Addr) (c d : Nat) (w : World) (hA : Arr w A (l.flatMap Wr.cs)) (hB : Arr w B (m.flatMap Wr.cs)) (hl : l.length ≤ 1099511627776) (hm : m.length ≤ 1099511627776) :
    Calls Tryz.prog 19 #[.slice A l.length c, .slice B m.length d] w fun e w' => e = .returned (.bool (decide (l = m))) ∧ Below w.heap.size w w' := by
  have hc := writes11_c l m A B c d w hA hB hl hm
  clear hA hB
  go_enter Tryz.func19, Tryz.ntmps19
  go_wp2_with (go_at_call 57; refine hc.mono ?_; rintro e w1 ⟨rfl, hb1⟩; have HB1 := Lib.hid hb1; clear hb1)
  go_ret
  exact ⟨rfl, HB1.out⟩
end Go.Proofs.YtabdldfigjkfaaaGreatDoor
