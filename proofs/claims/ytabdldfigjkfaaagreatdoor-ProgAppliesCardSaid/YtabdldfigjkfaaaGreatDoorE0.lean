import Derived.Test.YtabdldfigjkfaaaGreatDoorD4
namespace Go.Proofs.YtabdldfigjkfaaaGreatDoor
open Go Go.RowKit

/-! The job: its store is a graph. -/
abbrev sto (g : Nat) : Value := .iface 30 (ptr g)
theorem heldStep1 {W W1 W2 : World} {a0 : Addr} {v0 : Value} (hb : Below W1.heap.size W1 W2)
    (h : Below W.heap.size W W1 ∧ W1.cell? a0 = some v0) : Below W.heap.size W W2 ∧ W2.cell? a0 = some v0 :=
  ⟨below_then h.1 h.1.size hb, cell_keep hb h.2⟩
def hasV (s : Str) : Bool := !decide (s = emp)
theorem hasV_eq (s : Str) : (!s.toList.isEmpty) = hasV s := by rw [isEmpty_iff]; rfl
set_option maxRecDepth 20000 in
set_option maxHeartbeats 1000000 in
theorem there_c (j g r : Nat) (m : KM) (a : Int) (w : World) (hG : GraphAt w g r m) (hj : w.cell? ⟨j, 0, none⟩ = some (sto g)) :
    Calls Tryz.prog 163 #[ptr j, I a] w fun e w' => e = .returned (.bool (hasV (mget m ⟨1, a, 0⟩))) ∧ Below w.heap.size w w' := by
  have HG := Lib.hid (fun w' (h : Below w.heap.size w w') => hG.below h)
  have hv := hasV_eq (mget m ⟨1, a, 0⟩)
  clear hG
  go_enter Tryz.func163, Tryz.ntmps163
  go_wp2_with (fail)
  go_region_held3 (fun W' => Below w.heap.size w W' ∧ W'.cell? ⟨j, 0, none⟩ = some (sto g))
    (first | exact ⟨(Below.refl _ _).drew, hj⟩ | exact heldStep1 (by assumption) (by assumption))
    (first
      | (go_at_call 110; refine (key_c _ _ _ _).mono ?_; rintro e w3 ⟨rfl, hb3⟩)
      | (go_at_call 65; refine (gget_c g r m ⟨1, a, 0⟩ _ ?_).mono ?_; (exact HG.out _ (And.left (by assumption))); rintro e w4 ⟨rfl, hb4⟩))
  rename_i hH
  have HH := Lib.hid hH.1
  clear hH
  go_wp2_with (fail)
  go_returns
  exact ⟨rfl, HH.out⟩
set_option maxRecDepth 20000 in
set_option maxHeartbeats 1000000 in
theorem jids_c (j g r : Nat) (m : KM) (k a : Int) (w : World) (hG : GraphAt w g r m) (hj : w.cell? ⟨j, 0, none⟩ = some (sto g)) (hs : (mget m ⟨k, a, 0⟩).size ≤ 1099511627776) :
    Calls Tryz.prog 169 #[ptr j, I k, I a] w fun e w' => ∃ v, e = .returned v ∧ w'.ownsRow w.heap.size 3 1 v (takeIds (mget m ⟨k, a, 0⟩)).1.length ((takeIds (mget m ⟨k, a, 0⟩)).1.map I) ∧ Below w.heap.size w w' := by
  have HG := Lib.hid (fun w' (h : Below w.heap.size w w') => hG.below h)
  clear hG
  go_enter Tryz.func169, Tryz.ntmps169
  go_wp2_with (fail)
  go_region_held3 (fun W' => Below w.heap.size w W' ∧ W'.cell? ⟨j, 0, none⟩ = some (sto g))
    (first | exact ⟨(Below.refl _ _).drew, hj⟩ | exact heldStep1 (by assumption) (by assumption))
    (first
      | (go_at_call 110; refine (key_c _ _ _ _).mono ?_; rintro e w3 ⟨rfl, hb3⟩)
      | (go_at_call 65; refine (gget_c g r m ⟨k, a, 0⟩ _ ?_).mono ?_; (exact HG.out _ (And.left (by assumption))); rintro e w4 ⟨rfl, hb4⟩; have HS4 := Lib.hid (show w.heap.size ≤ w4.heap.size from Nat.le_trans (And.left (by assumption : Below w.heap.size w _ ∧ _)).size hb4.size))
      | (go_at_call 122; refine (takeids_c _ _ hs).mono ?_; rintro e w5 ⟨v, rfl, ho5, hb5⟩; have HO5 := Lib.hid ho5; clear ho5))
  rename_i hH
  have HH := Lib.hid hH.1
  clear hH
  go_wp2_with (fail)
  go_returns
  exact ⟨v, rfl, own_mono HO5.out HS4.out, HH.out⟩
end Go.Proofs.YtabdldfigjkfaaaGreatDoor
