import Derived.Test.YtabdldfigjkfaaaGreatDoorD3
import Derived.Shelf.SlicesE.DeleteFunc
namespace Go.Proofs
open Go.Shelf
def Tryz.delI_ren : Go.Shelf.Ren := ⟨fun | 10 => 216 | 6 => 237 | n => n, fun | 22 => 32 | 23 => 3 | 25 => 206 | 3 => 3 | 4 => 4 | 0 => 0 | n => n, fun | n => n⟩
theorem Tryz.delI : Go.Proofs.SlLaysH.n10 Tryz.prog Tryz.delI_ren := {
  mixed := by kernel_rfl
  f6 := ⟨Tryz.f237.name, by decide, Tryz.func237.trans (congrArg some (by kernel_rfl))⟩
  f10 := ⟨Tryz.f216.name, by decide, Tryz.func216.trans (congrArg some (by kernel_rfl))⟩
  t0 := Tryz.underlying0
  a0 := Tryz.isAgg0
  z0 := Tryz.sizeOf0
  v0 := Tryz.zeroValue0
  t3 := Tryz.underlying3
  a3 := Tryz.isAgg3
  z3 := Tryz.sizeOf3
  v3 := Tryz.zeroValue3
  t4 := Tryz.underlying4
  a4 := Tryz.isAgg4
  z4 := Tryz.sizeOf4
  v4 := Tryz.zeroValue4
  t22 := Tryz.underlying32
  a22 := Tryz.isAgg32
  z22 := Tryz.sizeOf32
  v22 := Tryz.zeroValue32
  a23 := Tryz.isAgg3
  z23 := Tryz.sizeOf3
  t25 := Tryz.underlying206
  a25 := Tryz.isAgg206
  z25 := Tryz.sizeOf206
  v25 := Tryz.zeroValue206 }
end Go.Proofs
namespace Go.Proofs.YtabdldfigjkfaaaGreatDoor
open Go Go.RowKit
open Go.Sort (putRow Holds)

/-! slices.DeleteFunc[[]int] of one number. -/
theorem same217 (x n : Int) (bx : Nat) (W : World) (h : W.cell? ⟨bx, 0, none⟩ = some (I n)) : Calls Tryz.prog 217 #[I x, ptr bx] W fun e w' => e = .returned (.bool (x == n)) ∧ w' = W := by
  go_enter Tryz.func217, Tryz.ntmps217
  go_wp2
  go_returns
  exact ⟨rfl, rfl⟩
theorem own_take {w : World} {base : Nat} {e : TypeId} {size g n cap : Nat} {xs : List Value} (h : w.ownsRow base e size (.slice (some ⟨g, 0, none⟩) n cap) n xs) (n' : Nat) (hn : n' ≤ n) :
    w.ownsRow base e size (.slice (some ⟨g, 0, none⟩) n' cap) n' (xs.take (n' * size)) := by
  obtain ⟨h1, h2⟩ := h
  have hle : n' * size ≤ n * size := Nat.mul_le_mul_right _ hn
  refine ⟨by rw [List.length_take, h1]; omega, ?_⟩
  rcases h2 with ⟨h2, _⟩ | ⟨g', cap', cur, hv, hb, hh, hc, hm, hs, ht⟩
  · cases h2
  · injection hv with hv _ hcap
    injection hv with hv
    injection hv with hv _ _
    subst hv; subst hcap
    exact .inr ⟨g, cap, cur, rfl, hb, hh, Nat.le_trans hn hc, hm, hs, by rw [← ht, List.take_take, Nat.min_eq_left hle]⟩
def without (l : List Int) (n : Int) : List Int := l.filter fun x => !(x == n)
theorem without_len (l : List Int) (n : Int) : (without l n).length ≤ l.length := List.length_filter_le _ _
theorem del_nil (fv : Value) (c : Nat) (w : World) : Calls Tryz.prog 216 #[.slice none 0 c, fv] w fun e w' => e = .returned (.slice none 0 c) ∧ w' = w := by
  have h0 : Calls Tryz.prog 237 #[.slice none 0 c, fv] w fun e w' => e = .returned (I (-1)) ∧ w' = w := by
    go_enter Tryz.func237, Tryz.ntmps237
    go_wp2
    go_loop [8] (fun i => i = I 0) (fun _ => 0)
    case atStart => rfl
    case round =>
      subst hrel
      go_wp2
      go_returns
      exact ⟨rfl, rfl⟩
  go_enter Tryz.func216, Tryz.ntmps216
  go_wp2_with (go_at_call 237; refine h0.mono ?_; rintro e w1 ⟨rfl, hw⟩; replace hw := hw.symm; subst hw)
  go_returns
  exact ⟨rfl, rfl⟩
theorem del_c (n : Int) (bx : Nat) (l : List Int) (v : Value) (base : Nat) (w : World) (h : w.ownsRow base 3 1 v l.length (l.map I)) (hbx : w.cell? ⟨bx, 0, none⟩ = some (I n)) (hne : v.ownBlock ≠ some bx) (hl : l.length ≤ 1099511627776) :
    Calls Tryz.prog 216 #[v, .func (.func 217) #[] #[ptr bx]] w fun e w' => ∃ v', e = .returned v' ∧ w'.ownsRow base 3 1 v' (without l n).length ((without l n).map I) ∧ w.grownBy w' v.ownBlock ∧ v'.ownBlock = v.ownBlock := by
  have h0 := h
  rcases h.2 with ⟨rfl, h2⟩ | ⟨g, cap, cur, rfl, hb, hh, hcap, _⟩
  · have hl0 : l = [] := List.eq_nil_of_length_eq_zero h2
    subst hl0
    exact (del_nil _ 0 w).mono fun e w' ⟨he, hw⟩ => ⟨_, he, by rw [hw]; exact h0, by rw [hw]; exact World.grownBy.refl _ _, rfl⟩
  · have hbg : bx ≠ g := fun e => hne (by rw [e]; rfl)
    have hgl : g < w.heap.size := (Array.getElem?_eq_some_iff.1 hh).1
    have eg : ∀ args w, (callFunc 217 args).run Tryz.prog w = .ok (.enter 217 args) w := fun args w => by kernel_rfl
    have hp : PredAt Tryz.prog 217 #[ptr bx] (Value.int .i64) (fun x => x == n) w := fun W x hB => (same217 x n bx W (cell_keep hB hbx)).mono fun e w' ⟨he, hw⟩ => ⟨he, 0, hw⟩
    have hpo : PredOver Tryz.prog 217 #[ptr bx] (Value.int .i64) (fun x => x == n) g 0 l.toArray.size w := fun q os dk x hd => by
      refine (same217 x n bx _ ?_).mono fun e w' ⟨he, hw⟩ => ⟨he, 0, hw⟩
      have := (sorted_ints h dk (by simpa using hd) q os).2
      exact this.cell hbx (by simpa using hbg)
    have hcon := AnyE.slices_DeleteFunc (P := Tryz.prog) Tryz.delI (Value.int .i64) (fun _ => rfl) (fun x => x == n) 217 #[ptr bx] eg 0 Tryz.zeroValue3 g 0 cap l.toArray w hp hpo (own_ints h rfl) (by simp; omega) (by simpa using hcap)
    refine hcon.mono ?_
    rintro e w' ⟨rfl, q, rfl⟩
    have hfl : (l.toArray.toList.filter fun x => !(x == n)) = without l n := rfl
    rw [hfl]
    have hle := without_len l n
    obtain ⟨r1, r2⟩ := sorted_ints h ((without l n) ++ List.replicate (l.length - (without l n).length) 0).toArray (by simp; omega) q #[]
    rw [Go.Sort.grow_empty] at r1 r2
    refine ⟨_, rfl, ?_, r2, rfl⟩
    refine own_cast (own_take r1 (without l n).length hle) rfl ?_
    simp
end Go.Proofs.YtabdldfigjkfaaaGreatDoor
