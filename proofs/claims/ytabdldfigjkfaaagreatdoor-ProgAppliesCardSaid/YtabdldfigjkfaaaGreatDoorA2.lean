import Derived.Test.YtabdldfigjkfaaaGreatDoorA1
namespace Go.Proofs.YtabdldfigjkfaaaGreatDoor
open Go Go.RowKit

def getW (l : List Wr) (k : Key) : Str := ((l.find? (fun x => x.k = k)).map Wr.v).getD emp

theorem getW_hit (l : List Wr) (k : Key) (n : Nat) (hn : n < l.length) (h : l[n].k = k) (hno : ∀ j (hj : j < l.length), j < n → l[j].k ≠ k) : getW l k = l[n].v := by
  have : l.find? (fun x => decide (x.k = k)) = some l[n] := by
    rw [List.find?_eq_some_iff_getElem]
    refine ⟨by simpa using h, n, hn, rfl, fun j hj => ?_⟩
    simpa using hno j (by omega) hj
  simp [getW, this]
theorem getW_miss (l : List Wr) (k : Key) (hno : ∀ j (hj : j < l.length), l[j].k ≠ k) : getW l k = emp := by
  have : l.find? (fun x => decide (x.k = k)) = none := by
    rw [List.find?_eq_none]
    intro x hx
    obtain ⟨j, hj, rfl⟩ := List.mem_iff_getElem.1 hx
    simpa using hno j hj
  simp [getW, this]

theorem Key.eq_iff (a b : Key) : (a.kind = b.kind ∧ a.a = b.a ∧ a.b = b.b) ↔ a = b := by
  cases a; cases b; simp

set_option maxHeartbeats 400000 in
theorem get14_c (l : List Wr) (A : Option Addr) (c : Nat) (k : Key) (w : World) (hA : Arr w A (l.flatMap Wr.cs)) (hl : l.length ≤ 1099511627776) :
    Calls Tryz.prog 62 #[.slice A l.length c, k.val] w fun e w' => e = .returned (.string (getW l k)) ∧ Below w.heap.size w w' := by
  have HA := Lib.hid hA; clear hA
  go_enter Tryz.func62, Tryz.ntmps62
  go_wp2
  go_loopw [5] (fun i wr => ∃ n : Nat, n ≤ l.length ∧ i = .int .i64 n ∧ Hid (∀ j (h : j < l.length), j < n → l[j].k ≠ k) ∧ Below (w.heap.size + 1) (w.alloc (Obj.cells #[I k.kind, I k.a, I k.b] 76)) wr) (fun i _ => l.length - (intOf i).toNat)
  case atStart => exact ⟨0, Nat.zero_le _, rfl, fun j h hj => by omega, Below.refl _ _⟩
  case round =>
    obtain ⟨n, hn, rfl, hno, hb⟩ := hrel
    have c0 : wr.cell? ⟨w.heap.size, 0, none⟩ = some (I k.kind) := (hb.cell (by simp)).trans (by simp)
    have c1 : wr.cell? ⟨w.heap.size, 1, none⟩ = some (I k.a) := (hb.cell (by simp)).trans (by simp)
    have c2 : wr.cell? ⟨w.heap.size, 2, none⟩ = some (I k.b) := (hb.cell (by simp)).trans (by simp)
    have HB := Lib.hid hb; clear hb
    by_cases hlt : n < l.length
    · obtain ⟨b, o, rfl, hbz, d0, d1, d2, d3⟩ := HA.out.wr n hlt
      have HBo : ∀ j, wr.cell? ⟨b, j, none⟩ = w.cell? ⟨b, j, none⟩ := fun j => (HB.out.cell (by simp; omega)).trans (World.cell?_alloc_lt _ _ _ hbz)
      rw [← HBo] at d0 d1 d2 d3
      clear HBo
      have hcut : (l[n].k = k) ∨ (l[n].k ≠ k) := Decidable.em _
      rcases hcut with he | he
      · have hk : keyEq l[n].k.kind l[n].k.a l[n].k.b k.kind k.a k.b = true := by rw [keyEq_iff]; exact decide_eq_true he
        have hg := Lib.hid (getW_hit l k n hlt he hno.out); clear he
        go_wp2
        go_quiet (fail)
        go_wp2
        go_ret
        exact ⟨by rw [hg.out]; rfl, (((Below.refl _ _).alloc (Nat.le_refl _) _).trans (HB.out.mono (by simp))).drewN _⟩
      · have hk : keyEq l[n].k.kind l[n].k.a l[n].k.b k.kind k.a k.b = false := by rw [keyEq_iff]; exact decide_eq_false he
        have he := Lib.hid he
        go_wp2
        go_quiet (fail)
        go_wp2
        go_roundw
        case rel => exact ⟨n + 1, by omega, by go_num, fun j h hj => by by_cases e : j = n; · subst e; exact he.out
                                                                        · exact hno.out j h (by omega), HB.out.drewN _⟩
        case measure => simp [intOf]; omega
    · have hg := Lib.hid (getW_miss l k fun j hj => hno.out j hj (by omega))
      go_wp2
      go_ret
      exact ⟨by rw [hg.out]; rfl, (((Below.refl _ _).alloc (Nat.le_refl _) _).trans (HB.out.mono (by simp)))⟩
end Go.Proofs.YtabdldfigjkfaaaGreatDoor
