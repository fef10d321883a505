import Derived.Test.YtabdldfigjkfaaaGreatDoorB4
namespace Go.Proofs.YtabdldfigjkfaaaGreatDoor
open Go Go.RowKit

def sx : Str := ⟨#[120]⟩
def ones (l : List Wr) : List Wr := l.map fun x => ⟨x.k, sx⟩
def allW (a b : List Wr) : List Wr := applyW (applyW [] (ones a)) (ones b)
def effW1 (a b : List Wr) (l : List Wr) : List Wr := l.filterMap fun x => if getW b x.k = getW a x.k then none else some ⟨x.k, getW b x.k⟩
def effW (a b : List Wr) : List Wr := effW1 a b (allW a b)
theorem ones_take (g l : List Wr) (n : Nat) (h : n < l.length) : applyW g (ones (l.take (n + 1))) = putW (applyW g (ones (l.take n))) l[n].k sx := by
  unfold ones
  have := applyW_take g (l.map fun x => (⟨x.k, sx⟩ : Wr)) n (by simpa using h)
  rw [← List.map_take, ← List.map_take] at this
  rw [this]; simp
theorem effW1_take (a b l : List Wr) (n : Nat) (h : n < l.length) : effW1 a b (l.take (n + 1)) = effW1 a b (l.take n) ++ if getW b l[n].k = getW a l[n].k then [] else [⟨l[n].k, getW b l[n].k⟩] := by
  unfold effW1; rw [List.take_succ_eq_append_getElem h, List.filterMap_append]; congr 1; simp only [List.filterMap_cons, List.filterMap_nil]; split <;> rename_i h <;> split at h <;> simp_all
theorem effW1_len (a b l : List Wr) : (effW1 a b l).length ≤ l.length := List.length_filterMap_le _ _

set_option maxRecDepth 20000 in
set_option maxHeartbeats 2000000 in
theorem effect16_c (a b : List Wr) (A B : Option Addr) (ca cb : Nat) (w : World) (hA : Arr w A (a.flatMap Wr.cs)) (hB : Arr w B (b.flatMap Wr.cs)) (hla : a.length ≤ 549755813887) (hlb : b.length ≤ 549755813887) :
    Calls Tryz.prog 28 #[.slice A a.length ca, .slice B b.length cb] w fun e w' => ∃ v, e = .returned v ∧ w'.ownsRow w.heap.size 100 4 v (effW a b).length ((effW a b).flatMap Wr.cs) ∧ Below w.heap.size w w' := by
  have HA := Lib.hid hA
  have HB := Lib.hid hB
  clear hA hB
  go_enter Tryz.func28, Tryz.ntmps28
  go_wp2
  go_loopw [5, 6] (fun s i wr => ∃ (n : Nat) (q : List Wr), n ≤ a.length ∧ i = .int .i64 n ∧ Hid (q = applyW [] (ones (a.take n))) ∧ q.length ≤ n ∧ (∃ A' c', s = .slice A' q.length c' ∧ Arr wr A' (q.flatMap Wr.cs)) ∧ Below w.heap.size w wr) (fun _ i _ => a.length - (intOf i).toNat)
  case atStart => exact ⟨0, [], Nat.zero_le _, rfl, Lib.hid rfl, Nat.le_refl _, ⟨none, 0, rfl, Arr.nil _ _⟩, Below.refl _ _⟩
  case round =>
    obtain ⟨n, q, hn, rfl, hq, hql, ⟨A', c', rfl, hArr⟩, hb⟩ := hrel
    have HBel := Lib.hid hb; clear hb
    by_cases hlt : n < a.length
    · obtain ⟨bl, o, rfl, hbz, d0, d1, d2, d3⟩ := HA.out.wr n hlt
      replace d0 := cell_keep HBel.out d0
      replace d1 := cell_keep HBel.out d1
      replace d2 := cell_keep HBel.out d2
      have hc := put14_c q A' c' a[n].k sx wr hArr (by omega)
      have hE := Lib.hid (ones_take [] a n hlt)
      have hpl := putW_len q a[n].k sx
      clear hArr d3
      generalize hq2 : putW q a[n].k sx = q2 at *
      go_wp2_with (go_at_call 67; refine hc.mono ?_; rintro e w1 ⟨s, rfl, ho1, hb1⟩; obtain ⟨A2, c2, rfl, ha⟩ := own_arr ho1; have HAr := Lib.hid ha; have HB1 := Lib.hid hb1; clear ho1 hb1 ha)
      go_roundw
      case rel =>
        refine ⟨n + 1, q2, by omega, by go_num, Lib.hid ?_, by omega, ⟨A2, c2, rfl, HAr.out⟩, below_then HBel.out HBel.out.size HB1.out⟩
        rw [hE.out, ← hq.out, hq2]
      case measure => simp [intOf]; omega
    · obtain rfl : n = a.length := by omega
      rw [List.take_length] at hq
      have HQA := Lib.hid hArr
      clear hArr
      go_wp2
      go_loopw [5, 7] (fun s i wr => ∃ (n : Nat) (q : List Wr), n ≤ b.length ∧ i = .int .i64 n ∧ Hid (q = applyW (applyW [] (ones a)) (ones (b.take n))) ∧ q.length ≤ a.length + n ∧ (∃ A' c', s = .slice A' q.length c' ∧ Arr wr A' (q.flatMap Wr.cs)) ∧ Below w.heap.size w wr) (fun _ i _ => b.length - (intOf i).toNat)
      case atStart => exact ⟨0, q, Nat.zero_le _, rfl, hq, by omega, ⟨A', c', rfl, HQA.out⟩, HBel.out⟩
      case round =>
        clear HQA HBel hq hql
        obtain ⟨n, q, hn, rfl, hq, hql, ⟨A', c', rfl, hArr⟩, hb⟩ := hrel
        have HBel := Lib.hid hb; clear hb
        by_cases hlt : n < b.length
        · obtain ⟨bl, o, rfl, hbz, d0, d1, d2, d3⟩ := HB.out.wr n hlt
          replace d0 := cell_keep HBel.out d0
          replace d1 := cell_keep HBel.out d1
          replace d2 := cell_keep HBel.out d2
          have hc := put14_c q A' c' b[n].k sx wr hArr (by omega)
          have hE := Lib.hid (ones_take (applyW [] (ones a)) b n hlt)
          have hpl := putW_len q b[n].k sx
          clear hArr d3
          generalize hq2 : putW q b[n].k sx = q2 at *
          go_wp2_with (go_at_call 67; refine hc.mono ?_; rintro e w1 ⟨s, rfl, ho1, hb1⟩; obtain ⟨A2, c2, rfl, ha⟩ := own_arr ho1; have HAr := Lib.hid ha; have HB1 := Lib.hid hb1; clear ho1 hb1 ha)
          go_roundw
          case rel =>
            refine ⟨n + 1, q2, by omega, by go_num, Lib.hid ?_, by omega, ⟨A2, c2, rfl, HAr.out⟩, below_then HBel.out HBel.out.size HB1.out⟩
            rw [hE.out, ← hq.out, hq2]
          case measure => simp [intOf]; omega
        · obtain rfl : n = b.length := by omega
          rw [List.take_length] at hq
          have HQ := Lib.hid hArr
          clear hArr
          go_wp2
          go_loopw [8, 9] (fun s i wr' => ∃ (n : Nat) (p : List Wr), n ≤ q.length ∧ i = .int .i64 n ∧ Hid (p = effW1 a b (q.take n)) ∧ p.length ≤ n ∧ wr'.ownsRow wr.heap.size 100 4 s p.length (p.flatMap Wr.cs) ∧ Below wr.heap.size wr wr') (fun _ i _ => q.length - (intOf i).toNat)
          case atStart => exact ⟨0, [], Nat.zero_le _, rfl, Lib.hid rfl, Nat.le_refl _, World.ownsRow_nil _ _ _ _, Below.refl _ _⟩
          case round =>
            obtain ⟨n, p, hn, rfl, hp, hpl, ho, hb⟩ := hrel
            obtain ⟨S2, sc2, rfl, _⟩ := own_arr ho
            have HO := Lib.hid ho
            have HBr := Lib.hid hb
            clear ho hb
            by_cases hlt : n < q.length
            · obtain ⟨bl, o, rfl, hbz, d0, d1, d2, d3⟩ := HQ.out.wr n hlt
              replace d0 := cell_keep HBr.out d0
              replace d1 := cell_keep HBr.out d1
              replace d2 := cell_keep HBr.out d2
              have hE := Lib.hid (effW1_take a b q n hlt)
              clear d3
              have hB2 := (HB.out.below HBel.out).below HBr.out
              have hA2 := (HA.out.below HBel.out).below HBr.out
              have hcb := get14_c b B cb q[n].k _ hB2 (by omega)
              have HA2 := Lib.hid hA2
              clear hB2 hA2
              by_cases hx : getW b q[n].k = getW a q[n].k
              · have hx' : (ByteArray.toList (getW b q[n].k) == ByteArray.toList (getW a q[n].k)) = true := by rw [str_beq]; exact decide_eq_true hx
                have HX := Lib.hid hx
                clear hx
                go_wp2_with (go_at_call 62; first
                  | (refine hcb.mono ?_; rintro e w4 ⟨rfl, hb4⟩; replace d0 := cell_keep hb4 d0; replace d1 := cell_keep hb4 d1; replace d2 := cell_keep hb4 d2; have HB4 := Lib.hid hb4; clear hb4 hcb)
                  | (refine (get14_c a A ca q[n].k _ (HA2.out.below HB4.out) (by omega)).mono ?_; rintro e w5 ⟨rfl, hb5⟩; have HB5 := Lib.hid hb5; clear hb5))
                go_roundw
                case rel =>
                  refine ⟨n + 1, p, by omega, by go_num, Lib.hid ?_, by omega, own_below (own_below HO.out HB4.out) HB5.out, below_then HBr.out HBr.out.size (below_then HB4.out HB4.out.size HB5.out)⟩
                  rw [hE.out, if_pos HX.out, List.append_nil]; exact hp.out
                case measure => simp [intOf]; omega
              · have hx' : (ByteArray.toList (getW b q[n].k) == ByteArray.toList (getW a q[n].k)) = false := by rw [str_beq]; exact decide_eq_false hx
                have HX := Lib.hid hx
                clear hx
                go_wp2_with (first
                  | (go_at_call 62; first
                    | (refine hcb.mono ?_; rintro e w4 ⟨rfl, hb4⟩; replace d0 := cell_keep hb4 d0; replace d1 := cell_keep hb4 d1; replace d2 := cell_keep hb4 d2; have HB4 := Lib.hid hb4; clear hb4 hcb)
                    | (refine (get14_c a A ca q[n].k _ (HA2.out.below HB4.out) (by omega)).mono ?_; rintro e w5 ⟨rfl, hb5⟩; replace d0 := cell_keep hb5 d0; replace d1 := cell_keep hb5 d1; replace d2 := cell_keep hb5 d2; have HB5 := Lib.hid hb5; clear hb5))
                  | (at_builtin; refine app1 _ rfl _ _ 28 100 _ 4 40 rfl Tryz.underlying28 info100 rfl (by decide) (by decide) (own_below (own_below HO.out HB4.out) HB5.out) [I q[n].k.kind, I q[n].k.a, I q[n].k.b, .string (getW b q[n].k)] rfl rfl (wr_one ⟨q[n].k, getW b q[n].k⟩) rfl (Nat.le_trans HBr.out.size (Nat.le_trans HB4.out.size HB5.out.size)) (by omega) ?_; intro v1 w6 hown6 hb6 _; have HO6 := Lib.hid hown6; clear hown6; have HB6 := Lib.hid hb6; clear hb6))
                go_roundw
                case rel =>
                  refine ⟨n + 1, p ++ [⟨q[n].k, getW b q[n].k⟩], by omega, by go_num, Lib.hid ?_, by simp; omega, own_cast HO6.out (by simp) (by simp; rfl), (below_then HBr.out HBr.out.size (below_then HB4.out HB4.out.size HB5.out)).trans HB6.out⟩
                  rw [hE.out, if_neg HX.out]; rw [← hp.out]
                case measure => simp [intOf]; omega
            · obtain rfl : n = q.length := by omega
              rw [List.take_length] at hp
              go_wp2
              go_ret
              exact ⟨_, rfl, own_cast (own_mono HO.out HBel.out.size) (by rw [hp.out, hq.out]; rfl) (by rw [hp.out, hq.out]; rfl), below_then HBel.out HBel.out.size HBr.out⟩
end Go.Proofs.YtabdldfigjkfaaaGreatDoor
