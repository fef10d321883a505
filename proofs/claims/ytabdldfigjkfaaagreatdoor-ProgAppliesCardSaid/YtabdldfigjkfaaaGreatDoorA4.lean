import Derived.Test.YtabdldfigjkfaaaGreatDoorA3
namespace Go.Proofs.YtabdldfigjkfaaaGreatDoor
open Go Go.RowKit

set_option maxHeartbeats 400000 in
theorem writes11_c (l m : List Wr) (A B : Option Addr) (c d : Nat) (w : World) (hA : Arr w A (l.flatMap Wr.cs)) (hB : Arr w B (m.flatMap Wr.cs)) (hl : l.length ≤ 1099511627776) (hm : m.length ≤ 1099511627776) :
    Calls Tryz.prog 57 #[.slice A l.length c, .slice B m.length d] w fun e w' => e = .returned (.bool (decide (l = m))) ∧ Below w.heap.size w w' := by
  have HA := Lib.hid hA; clear hA
  have HB := Lib.hid hB; clear hB
  by_cases hlm : l.length = m.length
  · have HL := Lib.hid hlm
    have h1 : ((l.length : Int) != (l.length : Int)) = false := by simp
    rw [← hlm]
    clear hlm
    go_enter Tryz.func57, Tryz.ntmps57
    go_wp2
    go_loopw [5] (fun i wr => ∃ n : Nat, n ≤ l.length ∧ i = .int .i64 n ∧ Hid (l.take n = m.take n) ∧ Below w.heap.size w wr) (fun i _ => l.length - (intOf i).toNat)
    case atStart => exact ⟨0, Nat.zero_le _, rfl, rfl, Below.refl _ _⟩
    case round =>
      obtain ⟨n, hn, rfl, heq, hb⟩ := hrel
      have HBel := Lib.hid hb; clear hb
      by_cases hlt : n < l.length
      · obtain ⟨b, o, rfl, hbz, d0, d1, d2, d3⟩ := HA.out.wr n hlt
        obtain ⟨b', o', rfl, hbz', g0, g1, g2, g3⟩ := HB.out.wr n (by have := HL.out; omega)
        replace d0 := cell_keep HBel.out d0
        replace d1 := cell_keep HBel.out d1
        replace d2 := cell_keep HBel.out d2
        replace d3 := cell_keep HBel.out d3
        replace g0 := cell_keep HBel.out g0
        replace g1 := cell_keep HBel.out g1
        replace g2 := cell_keep HBel.out g2
        replace g3 := cell_keep HBel.out g3
        have hlt2 : n < m.length := by have := HL.out; omega
        rcases (Decidable.em (l[n] = m[n])) with he | he
        · have hk : wrEq l[n].k.kind l[n].k.a l[n].k.b l[n].v m[n].k.kind m[n].k.a m[n].k.b m[n].v = true := by rw [wrEq_iff]; exact decide_eq_true he
          have he2 := Lib.hid he
          clear he
          go_wp2
          go_quiet (fail)
          go_wp2
          go_roundw
          case rel => exact ⟨n + 1, by omega, by go_num, by show l.take (n + 1) = m.take (n + 1); rw [List.take_succ_eq_append_getElem hlt, List.take_succ_eq_append_getElem hlt2, heq.out, he2.out], HBel.out.drewN _⟩
          case measure => simp [intOf]; omega
        · have hk : wrEq l[n].k.kind l[n].k.a l[n].k.b l[n].v m[n].k.kind m[n].k.a m[n].k.b m[n].v = false := by rw [wrEq_iff]; exact decide_eq_false he
          have hne : decide (l = m) = false := decide_eq_false (fun e => he (by subst e; rfl))
          have hne := Lib.hid hne
          clear he
          go_wp2
          go_quiet (fail)
          go_wp2
          go_ret
          exact ⟨by rw [hne.out]; rfl, HBel.out.drewN _⟩
      · have hne : decide (l = m) = true := decide_eq_true (by have := heq.out; rwa [List.take_of_length_le (by omega), List.take_of_length_le (by have := HL.out; omega)] at this)
        have hne := Lib.hid hne
        go_wp2
        go_ret
        exact ⟨by rw [hne.out]; rfl, HBel.out⟩
  · have h1 : ((l.length : Int) != (m.length : Int)) = true := bne_iff_ne.2 (by omega)
    have hne : decide (l = m) = false := decide_eq_false (fun e => hlm (by rw [e]))
    have hne := Lib.hid hne
    clear hlm
    go_enter Tryz.func57, Tryz.ntmps57
    go_wp2
    go_ret
    exact ⟨by rw [hne.out]; rfl, Below.refl _ _⟩

def newW (l : List Wr) : List Wr := l.foldl (fun o x => putW o x.k x.v) []
def applyW (g l : List Wr) : List Wr := l.foldl (fun o x => putW o x.k x.v) g
theorem putW_len (l : List Wr) (k : Key) (v : Str) : (putW l k v).length ≤ l.length + 1 := by
  unfold putW
  have h1 : (List.filter (fun x => decide (x.k ≠ k)) (l.drop (tw l k).length)).length ≤ l.length - (tw l k).length := by
    refine Nat.le_trans (List.length_filter_le _ _) ?_; simp
  have h2 : (tw l k).length ≤ l.length := List.IsPrefix.length_le (List.takeWhile_prefix _)
  have h3 : ((if v = emp then [] else [(⟨k, v⟩ : Wr)])).length ≤ 1 := by split <;> simp
  simp only [List.length_append]; omega
theorem applyW_len (g l : List Wr) : (applyW g l).length ≤ g.length + l.length := by
  unfold applyW
  induction l generalizing g with
  | nil => simp
  | cons x l ih => have := ih (putW g x.k x.v); have := putW_len g x.k x.v; simp; omega
theorem applyW_take (g l : List Wr) (n : Nat) (h : n < l.length) : applyW g (l.take (n + 1)) = putW (applyW g (l.take n)) l[n].k l[n].v := by
  unfold applyW; rw [List.take_succ_eq_append_getElem h, List.foldl_append]; rfl

set_option maxHeartbeats 1000000 in
set_option maxRecDepth 20000 in
theorem new14_c (l : List Wr) (A : Option Addr) (c : Nat) (w : World) (hA : Arr w A (l.flatMap Wr.cs)) (hl : l.length ≤ 1099511627776) :
    Calls Tryz.prog 29 #[.slice A l.length c] w fun e w' => ∃ s, e = .returned s ∧ w'.ownsRow w.heap.size 100 4 s (applyW [] l).length ((applyW [] l).flatMap Wr.cs) ∧ Below w.heap.size w w' := by
  have HA := Lib.hid hA; clear hA
  go_enter Tryz.func29, Tryz.ntmps29
  go_wp2
  go_loopw [3, 4] (fun o i wr => ∃ n : Nat, n ≤ l.length ∧ i = .int .i64 n ∧ wr.ownsRow w.heap.size 100 4 o (applyW [] (l.take n)).length ((applyW [] (l.take n)).flatMap Wr.cs) ∧ Below w.heap.size w wr) (fun _ i _ => l.length - (intOf i).toNat)
  case atStart => exact ⟨0, Nat.zero_le _, rfl, World.ownsRow_nil _ _ _ _, Below.refl _ _⟩
  case round =>
    obtain ⟨n, hn, rfl, hown, hb⟩ := hrel
    have HBel := Lib.hid hb; clear hb
    by_cases hlt : n < l.length
    · obtain ⟨b, o, rfl, hbz, d0, d1, d2, d3⟩ := HA.out.wr n hlt
      obtain ⟨A', c', rfl, hArr⟩ := own_arr hown
      clear hown
      replace d0 := cell_keep HBel.out d0
      replace d1 := cell_keep HBel.out d1
      replace d2 := cell_keep HBel.out d2
      replace d3 := cell_keep HBel.out d3
      have hlen := applyW_len [] (l.take n)
      rw [List.length_take, Nat.min_eq_left hn] at hlen
      have hc := put14_c (applyW [] (l.take n)) A' c' l[n].k l[n].v wr.drew hArr (by simp at hlen; omega)
      have hs := Lib.hid (applyW_take [] l n hlt)
      clear hArr hlen
      go_wp2
      go_still_tail 11, (by kernel_rfl)
      change wpList _ _ _ _ _ wr.drew
      go_wp2_with (go_at_call 67; refine hc.mono ?_; rintro e w1 ⟨s, rfl, ho1, hb1⟩; have HO1 := Lib.hid ho1; have HB1 := Lib.hid hb1; clear ho1 hb1)
      go_roundw
      case rel => exact ⟨n + 1, by omega, by go_num, own_mono (own_cast HO1.out (by rw [hs.out]) (by rw [hs.out])) HBel.out.size, below_dthen HBel.out HBel.out.size HB1.out⟩
      case measure => simp [intOf]; omega
    · obtain rfl : n = l.length := by omega
      have HO := Lib.hid hown; clear hown
      go_wp2
      go_ret
      exact ⟨_, rfl, own_cast HO.out (by rw [List.take_length]) (by rw [List.take_length]), HBel.out⟩
end Go.Proofs.YtabdldfigjkfaaaGreatDoor
