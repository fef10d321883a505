import Derived.Test.YtabdldfigjkfaaaGreatDoorC1
namespace Go.Proofs.YtabdldfigjkfaaaGreatDoor
open Go Go.RowKit

theorem Arr.op {w : World} {A : Option Addr} {l : List Opr} (h : Arr w A (l.flatMap Opr.cs)) (i : Nat) (hi : i < l.length) :
    ∃ b o, A = some ⟨b, o, none⟩ ∧ b < w.heap.size ∧ w.cell? ⟨b, o + i * 10, none⟩ = some (I l[i].kind) ∧ w.cell? ⟨b, o + i * 10 + 1, none⟩ = some (I l[i].a)
      ∧ w.cell? ⟨b, o + i * 10 + 2, none⟩ = some (I l[i].b) ∧ w.cell? ⟨b, o + i * 10 + 3, none⟩ = some (I l[i].k) ∧ w.cell? ⟨b, o + i * 10 + 4, none⟩ = some (I l[i].v.t) ∧ w.cell? ⟨b, o + i * 10 + 5, none⟩ = some (I l[i].v.n) ∧ w.cell? ⟨b, o + i * 10 + 6, none⟩ = some (.string l[i].v.s)
      ∧ w.cell? ⟨b, o + i * 10 + 7, none⟩ = some (I l[i].w.t) ∧ w.cell? ⟨b, o + i * 10 + 8, none⟩ = some (I l[i].w.n) ∧ w.cell? ⟨b, o + i * 10 + 9, none⟩ = some (.string l[i].w.s) := by
  obtain ⟨b, o, rfl, hb, hc⟩ := h.at_ (k := 10) (fun _ => rfl) (by omega) i hi
  refine ⟨b, o, rfl, hb, ?_, ?_, ?_, ?_, ?_, ?_, ?_, ?_, ?_, ?_⟩
  · simpa [Opr.cs] using hc 0 (by omega)
  · simpa [Opr.cs, Nat.add_assoc] using hc 1 (by omega)
  · simpa [Opr.cs, Nat.add_assoc] using hc 2 (by omega)
  · simpa [Opr.cs, Nat.add_assoc] using hc 3 (by omega)
  · simpa [Opr.cs, Nat.add_assoc] using hc 4 (by omega)
  · simpa [Opr.cs, Nat.add_assoc] using hc 5 (by omega)
  · simpa [Opr.cs, Nat.add_assoc] using hc 6 (by omega)
  · simpa [Opr.cs, Nat.add_assoc] using hc 7 (by omega)
  · simpa [Opr.cs, Nat.add_assoc] using hc 8 (by omega)
  · simpa [Opr.cs, Nat.add_assoc] using hc 9 (by omega)
theorem notchk_c (o : Opr) (w : World) : Calls Tryz.prog 118 #[o.val] w fun e w' => e = .returned (.bool (!chk o)) ∧ Below w.heap.size w w' := by
  have HB := Lib.hid (show Below w.heap.size w (w.alloc (.cells #[I o.kind, I o.a, I o.b, I o.k, I o.v.t, I o.v.n, .string o.v.s, I o.w.t, I o.w.n, .string o.w.s] 26)) from (Below.refl _ _).alloc (Nat.le_refl _) _)
  go_enter Tryz.func118, Tryz.ntmps118
  go_wp2_with (go_at_call 52; refine (opcheck_c o _).mono ?_; rintro e w1 ⟨rfl, hb1⟩; have HB1 := Lib.hid hb1; clear hb1)
  go_returns
  exact ⟨rfl, below_then HB.out HB.out.size HB1.out⟩
def idx (p : Opr → Bool) (l : List Opr) : Int := match l.findIdx? p with
  | some i => i
  | none => -1
theorem idx_hit (p : Opr → Bool) (l : List Opr) (n : Nat) (hn : n < l.length) (h : p l[n] = true) (h0 : ∀ j (hj : j < l.length), j < n → p l[j] = false) : idx p l = n := by
  have : l.findIdx? p = some n := by
    rw [List.findIdx?_eq_some_iff_getElem]
    exact ⟨hn, h, fun j hj => by simpa using h0 j (by omega) hj⟩
  unfold idx; rw [this]
theorem idx_miss (p : Opr → Bool) (l : List Opr) (h0 : ∀ j (hj : j < l.length), p l[j] = false) : idx p l = -1 := by
  have : l.findIdx? p = none := by
    rw [List.findIdx?_eq_none_iff]
    intro x hx
    obtain ⟨i, hi, rfl⟩ := List.mem_iff_getElem.1 hx
    exact h0 i hi
  unfold idx; rw [this]

set_option maxRecDepth 20000 in
set_option maxHeartbeats 1000000 in
theorem index_c (l : List Opr) (A : Option Addr) (c : Nat) (w : World) (hA : Arr w A (l.flatMap Opr.cs)) (hl : l.length ≤ 1099511627776) :
    Calls Tryz.prog 117 #[.slice A l.length c, .func (.func 118) #[] #[]] w fun e w' => e = .returned (I (idx (fun o => !chk o) l)) ∧ Below w.heap.size w w' := by
  have HA := Lib.hid hA; clear hA
  go_enter Tryz.func117, Tryz.ntmps117
  go_wp2
  go_loopw [8] (fun i wr => ∃ n : Nat, n ≤ l.length ∧ i = .int .i64 n ∧ Hid (∀ j (hj : j < l.length), j < n → (!chk l[j]) = false) ∧ Below w.heap.size w wr) (fun i _ => l.length - (intOf i).toNat)
  case atStart => exact ⟨0, Nat.zero_le _, rfl, Lib.hid (fun j hj h => by omega), Below.refl _ _⟩
  case round =>
    obtain ⟨n, hn, rfl, h0, hb⟩ := hrel
    have HBel := Lib.hid hb; clear hb
    by_cases hlt : n < l.length
    · obtain ⟨b, o, rfl, hbz, d0, d1, d2, d3, d4, d5, d6, d7, d8, d9⟩ := HA.out.op n hlt
      replace d0 := cell_keep HBel.out d0
      replace d1 := cell_keep HBel.out d1
      replace d2 := cell_keep HBel.out d2
      replace d3 := cell_keep HBel.out d3
      replace d4 := cell_keep HBel.out d4
      replace d5 := cell_keep HBel.out d5
      replace d6 := cell_keep HBel.out d6
      replace d7 := cell_keep HBel.out d7
      replace d8 := cell_keep HBel.out d8
      replace d9 := cell_keep HBel.out d9
      cases hx : chk l[n] with
      | true =>
        have hc := notchk_c l[n] wr
        rw [hx] at hc
        have HX := Lib.hid hx
        clear hx
        go_wp2_with (go_at_call 118; refine hc.mono ?_; rintro e w1 ⟨rfl, hb1⟩; have HB1 := Lib.hid hb1; clear hb1)
        go_roundw
        case rel => exact ⟨n + 1, by omega, by go_num, Lib.hid (fun j hj h => (Nat.lt_succ_iff_lt_or_eq.1 h).elim (fun h => h0.out j hj h) (fun h => by subst h; rw [HX.out]; rfl)), below_then HBel.out HBel.out.size HB1.out⟩
        case measure => simp [intOf]; omega
      | false =>
        have hc := notchk_c l[n] wr
        rw [hx] at hc
        have E := Lib.hid (idx_hit (fun o => !chk o) l n hlt (by simp [hx]) (fun j hj h => h0.out j hj h))
        clear hx
        go_wp2_with (go_at_call 118; refine hc.mono ?_; rintro e w1 ⟨rfl, hb1⟩; have HB1 := Lib.hid hb1; clear hb1)
        go_returns
        exact ⟨by rw [E.out]; rfl, below_then HBel.out HBel.out.size HB1.out⟩
    · have E := Lib.hid (idx_miss (fun o => !chk o) l (fun j hj => h0.out j hj (by omega)))
      go_wp2
      go_returns
      exact ⟨by rw [E.out]; rfl, HBel.out⟩
/-- prog.Check's word. -/
def pchk (l : List Opr) : Int × Int := if l.length < 1 ∨ 12 < l.length then (0, 3) else if 0 ≤ idx (fun o => !chk o) l then (idx (fun o => !chk o) l, 1) else (0, 0)
set_option maxRecDepth 20000 in
set_option maxHeartbeats 1000000 in
theorem pcheck_c (l : List Opr) (A : Option Addr) (c : Nat) (w : World) (hA : Arr w A (l.flatMap Opr.cs)) (hl : l.length ≤ 1099511627776) :
    Calls Tryz.prog 63 #[.slice A l.length c] w fun e w' => e = .returned (.tuple #[I (pchk l).1, I (pchk l).2]) ∧ Below w.heap.size w w' := by
  have hc := index_c l A c w hA hl
  clear hA
  by_cases h1 : l.length < 1
  · have e : pchk l = (0, 3) := by unfold pchk; rw [if_pos (.inl h1)]
    have E := Lib.hid e; clear e
    go_enter Tryz.func63, Tryz.ntmps63
    go_wp2
    go_returns
    exact ⟨by rw [E.out]; rfl, Below.refl _ _⟩
  by_cases h2 : 12 < l.length
  · have e : pchk l = (0, 3) := by unfold pchk; rw [if_pos (.inr h2)]
    have E := Lib.hid e; clear e
    go_enter Tryz.func63, Tryz.ntmps63
    go_wp2
    go_returns
    exact ⟨by rw [E.out]; rfl, Below.refl _ _⟩
  by_cases h3 : 0 ≤ idx (fun o => !chk o) l
  · have e : pchk l = (idx (fun o => !chk o) l, 1) := by unfold pchk; rw [if_neg (by omega), if_pos h3]
    have E := Lib.hid e; clear e
    generalize idx (fun o => !chk o) l = x at *
    go_enter Tryz.func63, Tryz.ntmps63
    go_wp2_with (go_at_call 117; refine hc.mono ?_; rintro e w1 ⟨rfl, hb1⟩; have HB1 := Lib.hid hb1; clear hb1)
    go_returns
    exact ⟨by rw [E.out]; rfl, HB1.out⟩
  · have e : pchk l = (0, 0) := by unfold pchk; rw [if_neg (by omega), if_neg h3]
    have E := Lib.hid e; clear e
    generalize idx (fun o => !chk o) l = x at *
    go_enter Tryz.func63, Tryz.ntmps63
    go_wp2_with (go_at_call 117; refine hc.mono ?_; rintro e w1 ⟨rfl, hb1⟩; have HB1 := Lib.hid hb1; clear hb1)
    go_returns
    exact ⟨by rw [E.out]; rfl, HB1.out⟩
end Go.Proofs.YtabdldfigjkfaaaGreatDoor
