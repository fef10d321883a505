import Derived.Test.YtabdldfigjkfaaaGreatDoorE2
namespace Go.Proofs.YtabdldfigjkfaaaGreatDoor
open Go Go.RowKit

theorem parseL_len : ∀ (n : Nat) (L : List UInt8) (l : List Int), L.length ≤ n → parseL L = some l → l.length * 4 = L.length
  | _, [], l, _, h => by simp [parseL] at h; subst h; rfl
  | 0, _ :: _, _, h, _ => by simp at h
  | n + 1, L, l, hn, h => by
    by_cases h4 : 4 ≤ L.length
    · rw [parse_four L h4] at h
      split at h
      · cases h
      · obtain ⟨q, hq, rfl⟩ := Option.map_eq_some_iff.1 h
        have := parseL_len n (L.drop 4) q (by rw [List.length_drop]; omega) hq
        rw [List.length_drop] at this
        simp only [List.length_cons]; omega
    · by_cases h0 : L = []
      · subst h0; simp [parseL] at h; subst h; rfl
      · rw [parse_short L h0 (by omega)] at h; cases h
theorem takeIds_len (s : Str) : (takeIds s).1.length ≤ s.size := by
  unfold takeIds
  cases h : parseL s.data.toList with
  | none => simp
  | some l =>
    have := parseL_len _ _ l (Nat.le_refl _) h
    rw [str_len] at this
    simp only
    split
    · show l.length ≤ s.size; omega
    · simp
def turnL (l : List Int) (n : Int) (is : Bool) : List Int := if is then sortL (without l n ++ [n]) else without l n
def turnM (m : KM) (k a n : Int) (is : Bool) : KM := putM m ⟨k, a, 0⟩ (idsS (turnL (takeIds (mget m ⟨k, a, 0⟩)).1 n is))
theorem turnL_len (l : List Int) (n : Int) (is : Bool) : (turnL l n is).length ≤ l.length + 1 := by
  have := without_len l n
  unfold turnL; split
  · simp [sortL]; omega
  · omega
set_option maxRecDepth 20000 in
set_option maxHeartbeats 2000000 in
theorem turn_c (j g r : Nat) (m : KM) (k a n : Int) (is : Bool) (w : World) (hG : GraphAt w g r m) (hj : w.cell? ⟨j, 0, none⟩ = some (sto g)) (hs : (mget m ⟨k, a, 0⟩).size ≤ 1099511627770)
    (hs2 : (mget (gput m ⟨k, a, 0⟩ (idsS (turnL (takeIds (mget m ⟨k, a, 0⟩)).1 n is))) ck).size ≤ 1099511627776) :
    Calls Tryz.prog 166 #[ptr j, I k, I a, I n, .bool is] w fun e w' => e = .returned (.tuple #[]) ∧ MapE w' r (turnM m k a n is) ∧ w.grownBy w' (some r) := by
  have hB : Below w.heap.size w (w.alloc (.cells #[I n] 3)) := (Below.refl _ _).alloc (Nat.le_refl _) _
  have hG1 := hG.below hB
  have hj1 := cell_keep hB hj
  have hbx : (w.alloc (.cells #[I n] 3)).cell? ⟨w.heap.size, 0, none⟩ = some (I n) := by simp
  have HB := Lib.hid hB
  have HJ := Lib.hid hj1
  have HG := Lib.hid hG1
  have hid := jids_c j g r m k a _ hG1 hj1 (by omega)
  have hlen := takeIds_len (mget m ⟨k, a, 0⟩)
  have HT := Lib.hid (show turnM m k a n is = putM m ⟨k, a, 0⟩ (idsS (turnL (takeIds (mget m ⟨k, a, 0⟩)).1 n is)) from rfl)
  have HG0 := Lib.hid hG
  have HJ0 := Lib.hid hj
  have HHS := Lib.hid hs
  clear hG hG1 hB hj hj1
  have hlen : (takeIds (mget m ⟨k, a, 0⟩)).1.length ≤ 1099511627770 := by omega
  clear hs
  generalize (takeIds (mget m ⟨k, a, 0⟩)).1 = l at *
  have hwl := without_len l n
  have hl : l.length ≤ 1099511627770 := by omega
  cases is with
  | false =>
    have ht : turnL l n false = without l n := rfl
    rw [ht] at hs2 HT
    clear ht
    go_enter Tryz.func166, Tryz.ntmps166
    go_wp2_with (first
      | (go_at_call 169; refine hid.mono ?_; rintro e w1 ⟨v, rfl, ho1, hb1⟩; have HO1 := Lib.hid ho1; have HB1 := Lib.hid hb1; replace hbx := cell_keep hb1 hbx; clear ho1 hb1)
      | (go_at_call 216; refine (del_c n w.heap.size l v _ w1 HO1.out hbx (fun e => by have := own_base HO1.out _ e; simp at this; omega) (by omega)).mono ?_; rintro e w2 ⟨v2, rfl, ho2, hg2, hv2⟩; obtain ⟨A2, c2, rfl, ha2⟩ := own_arr ho2; have HA2 := Lib.hid ha2; have HB2 := Lib.hid ((below_then HB.out HB.out.size HB1.out).grown hg2 (Nat.le_trans HB.out.size HB1.out.size) (fun i hi => Nat.le_trans HB.out.size (own_base HO1.out i hi))); clear ho2 hg2 ha2 hv2)
      | (go_at_call 110; refine (key_c _ _ _ _).mono ?_; rintro e w3 ⟨rfl, hb3⟩; have HB3 := Lib.hid (below_then HB2.out HB2.out.size hb3); have HA3 := Lib.hid (HA2.out.below hb3); clear hb3)
      | (go_at_call 165; refine (ids_c (without l n) A2 c2 _ HA3.out (by omega)).mono ?_; rintro e w4 ⟨rfl, hb4⟩; have HB4 := Lib.hid (below_then HB3.out HB3.out.size hb4); clear hb4)
      | (go_at_call 164; refine (put_c j g r m ⟨k, a, 0⟩ (idsS (without l n)) w4 (HG0.out.below HB4.out) (cell_keep HB4.out HJ0.out) hs2).mono ?_; rintro e w5 ⟨rfl, hm5, hg5⟩; have HM5 := Lib.hid hm5; have HG5 := Lib.hid hg5; clear hm5 hg5))
    go_end0
    exact ⟨rfl, by rw [HT.out]; exact HM5.out, World.grownBy.trans (grown_below HB4.out _) HG5.out⟩
  | true =>
    have ht : turnL l n true = sortL (without l n ++ [n]) := rfl
    rw [ht] at hs2 HT
    clear ht
    have hqn : without l n ++ [n] ≠ [] := by simp
    have hql : (without l n ++ [n]).length = (without l n).length + 1 := by simp
    have hqm : (without l n ++ [n]).map I = (without l n).map I ++ [I n] := by simp
    have hsl : (sortL (without l n ++ [n])).length = (without l n ++ [n]).length := by simp [sortL]
    generalize hq : without l n ++ [n] = q at *
    generalize hz : sortL q = z at *
    have hz := Lib.hid hz
    have hq := Lib.hid hq
    have hqm := Lib.hid hqm
    have hq40 : q.length ≤ 1099511627771 := by omega
    have hz40 : z.length ≤ 1099511627771 := by omega
    have hql := Lib.hid hql
    clear hsl
    go_enter Tryz.func166, Tryz.ntmps166
    go_wp2_with (first
      | (go_at_call 169; refine hid.mono ?_; rintro e w1 ⟨v, rfl, ho1, hb1⟩; have HO1 := Lib.hid ho1; have HB1 := Lib.hid hb1; replace hbx := cell_keep hb1 hbx; clear ho1 hb1)
      | (go_at_call 216; refine (del_c n w.heap.size l v _ w1 HO1.out hbx (fun e => by have := own_base HO1.out _ e; simp at this; omega) (by omega)).mono ?_; rintro e w2 ⟨v2, rfl, ho2, hg2, hv2⟩; replace hbx := hg2.cell hbx (fun e => by have := own_base HO1.out _ e.symm; simp at this; omega); have HO2 := Lib.hid (show w2.ownsRow _ 3 1 v2 _ _ from ho2); have HB2 := Lib.hid ((below_then HB.out HB.out.size HB1.out).grown hg2 (Nat.le_trans HB.out.size HB1.out.size) (fun i hi => Nat.le_trans HB.out.size (own_base HO1.out i hi))); have hz2 : (w.alloc (.cells #[I n] 3)).heap.size ≤ w2.heap.size := Nat.le_trans HB1.out.size hg2.size; clear ho2 hg2 hv2)
      | (at_builtin; refine app1 (w.alloc (.cells #[I n] 3)).heap.size rfl _ _ 32 3 _ 1 8 rfl Tryz.underlying32 info3 rfl (by decide) (by decide) HO2.out [I n] rfl rfl (by simp [Value.oneCell']) rfl hz2 (by omega) ?_; intro v3 w3 hown3 hb3 _; have HO3 := Lib.hid (own_cast hown3 hql.out.symm hqm.out.symm); have HB3 := Lib.hid (HB2.out.trans (hb3.mono HB.out.size)); clear hown3 hb3)
      | (go_at_call 218; refine (sortI_c q v3 _ w3 HO3.out hqn (by omega)).mono ?_; rw [hz.out]; rintro e w4 ⟨rfl, ho4, hg4⟩; obtain ⟨A4, c4, rfl, ha4⟩ := own_arr ho4; have HA4 := Lib.hid ha4; have HB4 := Lib.hid (HB3.out.grown hg4 HB3.out.size (fun i hi => Nat.le_trans HB.out.size (own_base HO3.out i hi))); clear ho4 hg4 ha4)
      | (go_at_call 110; refine (key_c _ _ _ _).mono ?_; rintro e w5 ⟨rfl, hb5⟩; have HB5 := Lib.hid (below_then HB4.out HB4.out.size hb5); have HA5 := Lib.hid (HA4.out.below hb5); clear hb5)
      | (go_at_call 165; refine (ids_c z A4 c4 _ HA5.out (by omega)).mono ?_; rintro e w6 ⟨rfl, hb6⟩; have HB6 := Lib.hid (below_then HB5.out HB5.out.size hb6); clear hb6)
      | (go_at_call 164; refine (put_c j g r m ⟨k, a, 0⟩ (idsS z) w6 (HG0.out.below HB6.out) (cell_keep HB6.out HJ0.out) hs2).mono ?_; rintro e w7 ⟨rfl, hm7, hg7⟩; have HM7 := Lib.hid hm7; have HG7 := Lib.hid hg7; clear hm7 hg7))
    go_end0
    exact ⟨rfl, by rw [HT.out]; exact HM7.out, World.grownBy.trans (grown_below HB6.out _) HG7.out⟩
end Go.Proofs.YtabdldfigjkfaaaGreatDoor
