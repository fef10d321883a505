import Derived.Test.YtabdldfigjkfaaaGreatDoorC0
namespace Go.Proofs.YtabdldfigjkfaaaGreatDoor
open Go Go.RowKit

/-! op.in, op.key, op.Check. -/
def inn (n e : Int) : Bool := decide (0 ≤ n) && decide (n < e)
theorem in_c (n m : Int) (w : World) : Calls Tryz.prog 92 #[I n, I m] w fun e w' => e = .returned (.bool (inn n m)) ∧ w' = w := by
  by_cases h : 0 ≤ n
  · have e : inn n m = decide (n < m) := by simp [inn, h]
    have E := Lib.hid e; clear e
    go_enter Tryz.func92, Tryz.ntmps92
    go_wp2
    go_ret
    exact ⟨by rw [E.out]; rfl, rfl⟩
  · have e : inn n m = false := by simp [inn, h]
    have E := Lib.hid e; clear e
    go_enter Tryz.func92, Tryz.ntmps92
    go_wp2
    go_ret
    exact ⟨by rw [E.out]; rfl, rfl⟩
theorem key_c (a b c : Int) (w : World) : Calls Tryz.prog 110 #[I a, I b, I c] w fun e w' => e = .returned (Key.val ⟨a, b, c⟩) ∧ Below w.heap.size w w' := by
  go_enter Tryz.func110, Tryz.ntmps110
  go_wp2
  refine bodyPost_ret (results_cell_row (p := 6) (ty := 76) rfl _ _ w.heap.size 76 #[I a, I b, I c] (0, 0) _ rfl (heap_alloc_new w _) Tryz.underlying76 rfl (by kernel_rfl)) rfl ?_
  exact ⟨rfl, (Below.refl _ _).alloc (Nat.le_refl _) _⟩
def chk (o : Opr) : Bool :=
  if o.kind = 1 then (if inn o.a 16 then inn o.b 4 else false)
  else if o.kind = 2 then inn o.a 16
  else if o.kind = 3 ∨ o.kind = 4 ∨ o.kind = 11 then (if inn o.a 16 then inn o.b 16 else false)
  else if o.kind = 5 then (if inn o.a 16 then (if inn o.k 4 then (if mayV o.v then o.v.t != 0 else false) else false) else false)
  else if o.kind = 6 ∨ o.kind = 7 then (if inn o.a 16 then inn o.k 4 else false)
  else if o.kind = 8 then inn o.a 4
  else if o.kind = 9 then (if inn o.k 4 then (if mayV o.v then mayV o.w else false) else false)
  else if o.kind = 10 then (if inn o.a 16 then inn o.b 17 else false)
  else if o.kind = 12 then (if inn o.a 4 then inn o.b 4 else false)
  else false

set_option maxRecDepth 20000 in
set_option maxHeartbeats 2000000 in
theorem opcheck1 (o : Opr) (w : World) (h : o.kind = 1) : Calls Tryz.prog 52 #[o.val] w fun e w' => e = .returned (.bool (chk o)) ∧ Below w.heap.size w w' := by
  have e : chk o = if inn o.a 16 then inn o.b 4 else false := by unfold chk; rw [if_pos (by omega : o.kind = 1)]
  have E := Lib.hid e; clear e
  have h1' : (o.kind == 1) = true := by simp [h]
  clear h
  have HB := Lib.hid (show Below w.heap.size w (w.alloc (.cells #[I o.kind, I o.a, I o.b, I o.k, I o.v.t, I o.v.n, .string o.v.s, I o.w.t, I o.w.n, .string o.w.s] 26)) from (Below.refl _ _).alloc (Nat.le_refl _) _)
  cases hx0 : inn o.a 16 with
  | true =>
    rw [hx0] at E
    go_enter Tryz.func52, Tryz.ntmps52
    go_wp2_with (go_at_call 92; refine (in_c _ _ _).mono ?_; (try rw [hx0]); rintro e w1 ⟨rfl, hw⟩; replace hw := hw.symm; subst hw)
    go_ret
    exact ⟨by rw [E.out]; first | rfl | simp, HB.out⟩
  | false =>
    rw [hx0] at E
    go_enter Tryz.func52, Tryz.ntmps52
    go_wp2_with (go_at_call 92; refine (in_c _ _ _).mono ?_; (try rw [hx0]); rintro e w1 ⟨rfl, hw⟩; replace hw := hw.symm; subst hw)
    go_ret
    exact ⟨by rw [E.out]; first | rfl | simp, HB.out⟩
set_option maxRecDepth 20000 in
set_option maxHeartbeats 2000000 in
theorem opcheck2 (o : Opr) (w : World) (h : o.kind = 2) : Calls Tryz.prog 52 #[o.val] w fun e w' => e = .returned (.bool (chk o)) ∧ Below w.heap.size w w' := by
  have e : chk o = inn o.a 16 := by unfold chk; rw [if_neg (by omega : ¬ (o.kind = 1)), if_pos (by omega : o.kind = 2)]
  have E := Lib.hid e; clear e
  have h1' : (o.kind == 1) = false := by rw [beq_eq_false_iff_ne]; omega
  have h2' : (o.kind == 2) = true := by simp [h]
  clear h
  have HB := Lib.hid (show Below w.heap.size w (w.alloc (.cells #[I o.kind, I o.a, I o.b, I o.k, I o.v.t, I o.v.n, .string o.v.s, I o.w.t, I o.w.n, .string o.w.s] 26)) from (Below.refl _ _).alloc (Nat.le_refl _) _)
  go_enter Tryz.func52, Tryz.ntmps52
  go_wp2_with (go_at_call 92; refine (in_c _ _ _).mono ?_; rintro e w1 ⟨rfl, hw⟩; replace hw := hw.symm; subst hw)
  go_ret
  exact ⟨by rw [E.out]; first | rfl | simp, HB.out⟩
set_option maxRecDepth 20000 in
set_option maxHeartbeats 2000000 in
theorem opcheck3 (o : Opr) (w : World) (h : o.kind = 3) : Calls Tryz.prog 52 #[o.val] w fun e w' => e = .returned (.bool (chk o)) ∧ Below w.heap.size w w' := by
  have e : chk o = if inn o.a 16 then inn o.b 16 else false := by unfold chk; rw [if_neg (by omega : ¬ (o.kind = 1)), if_neg (by omega : ¬ (o.kind = 2)), if_pos (by omega : o.kind = 3 ∨ o.kind = 4 ∨ o.kind = 11)]
  have E := Lib.hid e; clear e
  have h1' : (o.kind == 1) = false := by rw [beq_eq_false_iff_ne]; omega
  have h2' : (o.kind == 2) = false := by rw [beq_eq_false_iff_ne]; omega
  have h3' : (o.kind == 3) = true := by simp [h]
  clear h
  have HB := Lib.hid (show Below w.heap.size w (w.alloc (.cells #[I o.kind, I o.a, I o.b, I o.k, I o.v.t, I o.v.n, .string o.v.s, I o.w.t, I o.w.n, .string o.w.s] 26)) from (Below.refl _ _).alloc (Nat.le_refl _) _)
  cases hx0 : inn o.a 16 with
  | true =>
    rw [hx0] at E
    go_enter Tryz.func52, Tryz.ntmps52
    go_wp2_with (go_at_call 92; refine (in_c _ _ _).mono ?_; (try rw [hx0]); rintro e w1 ⟨rfl, hw⟩; replace hw := hw.symm; subst hw)
    go_ret
    exact ⟨by rw [E.out]; first | rfl | simp, HB.out⟩
  | false =>
    rw [hx0] at E
    go_enter Tryz.func52, Tryz.ntmps52
    go_wp2_with (go_at_call 92; refine (in_c _ _ _).mono ?_; (try rw [hx0]); rintro e w1 ⟨rfl, hw⟩; replace hw := hw.symm; subst hw)
    go_ret
    exact ⟨by rw [E.out]; first | rfl | simp, HB.out⟩
set_option maxRecDepth 20000 in
set_option maxHeartbeats 2000000 in
theorem opcheck4 (o : Opr) (w : World) (h : o.kind = 4) : Calls Tryz.prog 52 #[o.val] w fun e w' => e = .returned (.bool (chk o)) ∧ Below w.heap.size w w' := by
  have e : chk o = if inn o.a 16 then inn o.b 16 else false := by unfold chk; rw [if_neg (by omega : ¬ (o.kind = 1)), if_neg (by omega : ¬ (o.kind = 2)), if_pos (by omega : o.kind = 3 ∨ o.kind = 4 ∨ o.kind = 11)]
  have E := Lib.hid e; clear e
  have h1' : (o.kind == 1) = false := by rw [beq_eq_false_iff_ne]; omega
  have h2' : (o.kind == 2) = false := by rw [beq_eq_false_iff_ne]; omega
  have h3' : (o.kind == 3) = false := by rw [beq_eq_false_iff_ne]; omega
  have h4' : (o.kind == 4) = true := by simp [h]
  clear h
  have HB := Lib.hid (show Below w.heap.size w (w.alloc (.cells #[I o.kind, I o.a, I o.b, I o.k, I o.v.t, I o.v.n, .string o.v.s, I o.w.t, I o.w.n, .string o.w.s] 26)) from (Below.refl _ _).alloc (Nat.le_refl _) _)
  cases hx0 : inn o.a 16 with
  | true =>
    rw [hx0] at E
    go_enter Tryz.func52, Tryz.ntmps52
    go_wp2_with (go_at_call 92; refine (in_c _ _ _).mono ?_; (try rw [hx0]); rintro e w1 ⟨rfl, hw⟩; replace hw := hw.symm; subst hw)
    go_ret
    exact ⟨by rw [E.out]; first | rfl | simp, HB.out⟩
  | false =>
    rw [hx0] at E
    go_enter Tryz.func52, Tryz.ntmps52
    go_wp2_with (go_at_call 92; refine (in_c _ _ _).mono ?_; (try rw [hx0]); rintro e w1 ⟨rfl, hw⟩; replace hw := hw.symm; subst hw)
    go_ret
    exact ⟨by rw [E.out]; first | rfl | simp, HB.out⟩
set_option maxRecDepth 20000 in
set_option maxHeartbeats 2000000 in
theorem opcheck11 (o : Opr) (w : World) (h : o.kind = 11) : Calls Tryz.prog 52 #[o.val] w fun e w' => e = .returned (.bool (chk o)) ∧ Below w.heap.size w w' := by
  have e : chk o = if inn o.a 16 then inn o.b 16 else false := by unfold chk; rw [if_neg (by omega : ¬ (o.kind = 1)), if_neg (by omega : ¬ (o.kind = 2)), if_pos (by omega : o.kind = 3 ∨ o.kind = 4 ∨ o.kind = 11)]
  have E := Lib.hid e; clear e
  have h1' : (o.kind == 1) = false := by rw [beq_eq_false_iff_ne]; omega
  have h2' : (o.kind == 2) = false := by rw [beq_eq_false_iff_ne]; omega
  have h3' : (o.kind == 3) = false := by rw [beq_eq_false_iff_ne]; omega
  have h4' : (o.kind == 4) = false := by rw [beq_eq_false_iff_ne]; omega
  have h11' : (o.kind == 11) = true := by simp [h]
  clear h
  have HB := Lib.hid (show Below w.heap.size w (w.alloc (.cells #[I o.kind, I o.a, I o.b, I o.k, I o.v.t, I o.v.n, .string o.v.s, I o.w.t, I o.w.n, .string o.w.s] 26)) from (Below.refl _ _).alloc (Nat.le_refl _) _)
  cases hx0 : inn o.a 16 with
  | true =>
    rw [hx0] at E
    go_enter Tryz.func52, Tryz.ntmps52
    go_wp2_with (go_at_call 92; refine (in_c _ _ _).mono ?_; (try rw [hx0]); rintro e w1 ⟨rfl, hw⟩; replace hw := hw.symm; subst hw)
    go_ret
    exact ⟨by rw [E.out]; first | rfl | simp, HB.out⟩
  | false =>
    rw [hx0] at E
    go_enter Tryz.func52, Tryz.ntmps52
    go_wp2_with (go_at_call 92; refine (in_c _ _ _).mono ?_; (try rw [hx0]); rintro e w1 ⟨rfl, hw⟩; replace hw := hw.symm; subst hw)
    go_ret
    exact ⟨by rw [E.out]; first | rfl | simp, HB.out⟩
set_option maxRecDepth 20000 in
set_option maxHeartbeats 2000000 in
theorem opcheck5 (o : Opr) (w : World) (h : o.kind = 5) : Calls Tryz.prog 52 #[o.val] w fun e w' => e = .returned (.bool (chk o)) ∧ Below w.heap.size w w' := by
  have e : chk o = if inn o.a 16 then (if inn o.k 4 then (if mayV o.v then o.v.t != 0 else false) else false) else false := by unfold chk; rw [if_neg (by omega : ¬ (o.kind = 1)), if_neg (by omega : ¬ (o.kind = 2)), if_neg (by omega : ¬ (o.kind = 3 ∨ o.kind = 4 ∨ o.kind = 11)), if_pos (by omega : o.kind = 5)]
  have E := Lib.hid e; clear e
  have h1' : (o.kind == 1) = false := by rw [beq_eq_false_iff_ne]; omega
  have h2' : (o.kind == 2) = false := by rw [beq_eq_false_iff_ne]; omega
  have h3' : (o.kind == 3) = false := by rw [beq_eq_false_iff_ne]; omega
  have h4' : (o.kind == 4) = false := by rw [beq_eq_false_iff_ne]; omega
  have h11' : (o.kind == 11) = false := by rw [beq_eq_false_iff_ne]; omega
  have h5' : (o.kind == 5) = true := by simp [h]
  clear h
  have HB := Lib.hid (show Below w.heap.size w (w.alloc (.cells #[I o.kind, I o.a, I o.b, I o.k, I o.v.t, I o.v.n, .string o.v.s, I o.w.t, I o.w.n, .string o.w.s] 26)) from (Below.refl _ _).alloc (Nat.le_refl _) _)
  have b0 : (w.alloc (.cells #[I o.kind, I o.a, I o.b, I o.k, I o.v.t, I o.v.n, .string o.v.s, I o.w.t, I o.w.n, .string o.w.s] 26)).cell? ⟨w.heap.size, 0, none⟩ = some (I o.kind) := by simp
  have b1 : (w.alloc (.cells #[I o.kind, I o.a, I o.b, I o.k, I o.v.t, I o.v.n, .string o.v.s, I o.w.t, I o.w.n, .string o.w.s] 26)).cell? ⟨w.heap.size, 1, none⟩ = some (I o.a) := by simp
  have b2 : (w.alloc (.cells #[I o.kind, I o.a, I o.b, I o.k, I o.v.t, I o.v.n, .string o.v.s, I o.w.t, I o.w.n, .string o.w.s] 26)).cell? ⟨w.heap.size, 2, none⟩ = some (I o.b) := by simp
  have b3 : (w.alloc (.cells #[I o.kind, I o.a, I o.b, I o.k, I o.v.t, I o.v.n, .string o.v.s, I o.w.t, I o.w.n, .string o.w.s] 26)).cell? ⟨w.heap.size, 3, none⟩ = some (I o.k) := by simp
  have b4 : (w.alloc (.cells #[I o.kind, I o.a, I o.b, I o.k, I o.v.t, I o.v.n, .string o.v.s, I o.w.t, I o.w.n, .string o.w.s] 26)).cell? ⟨w.heap.size, 4, none⟩ = some (I o.v.t) := by simp
  have b5 : (w.alloc (.cells #[I o.kind, I o.a, I o.b, I o.k, I o.v.t, I o.v.n, .string o.v.s, I o.w.t, I o.w.n, .string o.w.s] 26)).cell? ⟨w.heap.size, 5, none⟩ = some (I o.v.n) := by simp
  have b6 : (w.alloc (.cells #[I o.kind, I o.a, I o.b, I o.k, I o.v.t, I o.v.n, .string o.v.s, I o.w.t, I o.w.n, .string o.w.s] 26)).cell? ⟨w.heap.size, 6, none⟩ = some (.string o.v.s) := by simp
  have b7 : (w.alloc (.cells #[I o.kind, I o.a, I o.b, I o.k, I o.v.t, I o.v.n, .string o.v.s, I o.w.t, I o.w.n, .string o.w.s] 26)).cell? ⟨w.heap.size, 7, none⟩ = some (I o.w.t) := by simp
  have b8 : (w.alloc (.cells #[I o.kind, I o.a, I o.b, I o.k, I o.v.t, I o.v.n, .string o.v.s, I o.w.t, I o.w.n, .string o.w.s] 26)).cell? ⟨w.heap.size, 8, none⟩ = some (I o.w.n) := by simp
  have b9 : (w.alloc (.cells #[I o.kind, I o.a, I o.b, I o.k, I o.v.t, I o.v.n, .string o.v.s, I o.w.t, I o.w.n, .string o.w.s] 26)).cell? ⟨w.heap.size, 9, none⟩ = some (.string o.w.s) := by simp
  cases hx0 : inn o.a 16 with
  | true =>
    rw [hx0] at E
    cases hx1 : inn o.k 4 with
    | true =>
      rw [hx1] at E
      cases hx2 : mayV o.v with
      | true =>
        rw [hx2] at E
        go_enter Tryz.func52, Tryz.ntmps52
        go_wp2_with (first
          | (go_at_call 92; refine (in_c _ _ _).mono ?_; (try rw [hx0]); (try rw [hx1]); (try rw [hx2]); rintro e w1 ⟨rfl, hw⟩; replace hw := hw.symm; subst hw)
          | (go_at_call_of 93 (o.v.t); refine (may_c o.v _).mono ?_; (try rw [hx0]); (try rw [hx1]); (try rw [hx2]); rintro e w1 ⟨rfl, hb1⟩; replace b0 := cell_keep hb1 b0; replace b1 := cell_keep hb1 b1; replace b2 := cell_keep hb1 b2; replace b3 := cell_keep hb1 b3; replace b4 := cell_keep hb1 b4; replace b5 := cell_keep hb1 b5; replace b6 := cell_keep hb1 b6; replace b7 := cell_keep hb1 b7; replace b8 := cell_keep hb1 b8; replace b9 := cell_keep hb1 b9; have HB1 := Lib.hid hb1; clear hb1)
          | (go_at_call_of 93 (o.w.t); refine (may_c o.w _).mono ?_; (try rw [hx0]); (try rw [hx1]); (try rw [hx2]); rintro e w2 ⟨rfl, hb2⟩; have HB2 := Lib.hid hb2; clear hb2))
        go_ret
        exact ⟨by rw [E.out]; first | rfl | simp, below_then HB.out HB.out.size HB1.out⟩
      | false =>
        rw [hx2] at E
        go_enter Tryz.func52, Tryz.ntmps52
        go_wp2_with (first
          | (go_at_call 92; refine (in_c _ _ _).mono ?_; (try rw [hx0]); (try rw [hx1]); (try rw [hx2]); rintro e w1 ⟨rfl, hw⟩; replace hw := hw.symm; subst hw)
          | (go_at_call_of 93 (o.v.t); refine (may_c o.v _).mono ?_; (try rw [hx0]); (try rw [hx1]); (try rw [hx2]); rintro e w1 ⟨rfl, hb1⟩; replace b0 := cell_keep hb1 b0; replace b1 := cell_keep hb1 b1; replace b2 := cell_keep hb1 b2; replace b3 := cell_keep hb1 b3; replace b4 := cell_keep hb1 b4; replace b5 := cell_keep hb1 b5; replace b6 := cell_keep hb1 b6; replace b7 := cell_keep hb1 b7; replace b8 := cell_keep hb1 b8; replace b9 := cell_keep hb1 b9; have HB1 := Lib.hid hb1; clear hb1)
          | (go_at_call_of 93 (o.w.t); refine (may_c o.w _).mono ?_; (try rw [hx0]); (try rw [hx1]); (try rw [hx2]); rintro e w2 ⟨rfl, hb2⟩; have HB2 := Lib.hid hb2; clear hb2))
        go_ret
        exact ⟨by rw [E.out]; first | rfl | simp, below_then HB.out HB.out.size HB1.out⟩
    | false =>
      rw [hx1] at E
      go_enter Tryz.func52, Tryz.ntmps52
      go_wp2_with (go_at_call 92; refine (in_c _ _ _).mono ?_; (try rw [hx0]); (try rw [hx1]); rintro e w1 ⟨rfl, hw⟩; replace hw := hw.symm; subst hw)
      go_ret
      exact ⟨by rw [E.out]; first | rfl | simp, HB.out⟩
  | false =>
    rw [hx0] at E
    go_enter Tryz.func52, Tryz.ntmps52
    go_wp2_with (go_at_call 92; refine (in_c _ _ _).mono ?_; (try rw [hx0]); rintro e w1 ⟨rfl, hw⟩; replace hw := hw.symm; subst hw)
    go_ret
    exact ⟨by rw [E.out]; first | rfl | simp, HB.out⟩
set_option maxRecDepth 20000 in
set_option maxHeartbeats 2000000 in
theorem opcheck6 (o : Opr) (w : World) (h : o.kind = 6) : Calls Tryz.prog 52 #[o.val] w fun e w' => e = .returned (.bool (chk o)) ∧ Below w.heap.size w w' := by
  have e : chk o = if inn o.a 16 then inn o.k 4 else false := by unfold chk; rw [if_neg (by omega : ¬ (o.kind = 1)), if_neg (by omega : ¬ (o.kind = 2)), if_neg (by omega : ¬ (o.kind = 3 ∨ o.kind = 4 ∨ o.kind = 11)), if_neg (by omega : ¬ (o.kind = 5)), if_pos (by omega : o.kind = 6 ∨ o.kind = 7)]
  have E := Lib.hid e; clear e
  have h1' : (o.kind == 1) = false := by rw [beq_eq_false_iff_ne]; omega
  have h2' : (o.kind == 2) = false := by rw [beq_eq_false_iff_ne]; omega
  have h3' : (o.kind == 3) = false := by rw [beq_eq_false_iff_ne]; omega
  have h4' : (o.kind == 4) = false := by rw [beq_eq_false_iff_ne]; omega
  have h11' : (o.kind == 11) = false := by rw [beq_eq_false_iff_ne]; omega
  have h5' : (o.kind == 5) = false := by rw [beq_eq_false_iff_ne]; omega
  have h6' : (o.kind == 6) = true := by simp [h]
  clear h
  have HB := Lib.hid (show Below w.heap.size w (w.alloc (.cells #[I o.kind, I o.a, I o.b, I o.k, I o.v.t, I o.v.n, .string o.v.s, I o.w.t, I o.w.n, .string o.w.s] 26)) from (Below.refl _ _).alloc (Nat.le_refl _) _)
  cases hx0 : inn o.a 16 with
  | true =>
    rw [hx0] at E
    go_enter Tryz.func52, Tryz.ntmps52
    go_wp2_with (go_at_call 92; refine (in_c _ _ _).mono ?_; (try rw [hx0]); rintro e w1 ⟨rfl, hw⟩; replace hw := hw.symm; subst hw)
    go_ret
    exact ⟨by rw [E.out]; first | rfl | simp, HB.out⟩
  | false =>
    rw [hx0] at E
    go_enter Tryz.func52, Tryz.ntmps52
    go_wp2_with (go_at_call 92; refine (in_c _ _ _).mono ?_; (try rw [hx0]); rintro e w1 ⟨rfl, hw⟩; replace hw := hw.symm; subst hw)
    go_ret
    exact ⟨by rw [E.out]; first | rfl | simp, HB.out⟩
set_option maxRecDepth 20000 in
set_option maxHeartbeats 2000000 in
theorem opcheck7 (o : Opr) (w : World) (h : o.kind = 7) : Calls Tryz.prog 52 #[o.val] w fun e w' => e = .returned (.bool (chk o)) ∧ Below w.heap.size w w' := by
  have e : chk o = if inn o.a 16 then inn o.k 4 else false := by unfold chk; rw [if_neg (by omega : ¬ (o.kind = 1)), if_neg (by omega : ¬ (o.kind = 2)), if_neg (by omega : ¬ (o.kind = 3 ∨ o.kind = 4 ∨ o.kind = 11)), if_neg (by omega : ¬ (o.kind = 5)), if_pos (by omega : o.kind = 6 ∨ o.kind = 7)]
  have E := Lib.hid e; clear e
  have h1' : (o.kind == 1) = false := by rw [beq_eq_false_iff_ne]; omega
  have h2' : (o.kind == 2) = false := by rw [beq_eq_false_iff_ne]; omega
  have h3' : (o.kind == 3) = false := by rw [beq_eq_false_iff_ne]; omega
  have h4' : (o.kind == 4) = false := by rw [beq_eq_false_iff_ne]; omega
  have h11' : (o.kind == 11) = false := by rw [beq_eq_false_iff_ne]; omega
  have h5' : (o.kind == 5) = false := by rw [beq_eq_false_iff_ne]; omega
  have h6' : (o.kind == 6) = false := by rw [beq_eq_false_iff_ne]; omega
  have h7' : (o.kind == 7) = true := by simp [h]
  clear h
  have HB := Lib.hid (show Below w.heap.size w (w.alloc (.cells #[I o.kind, I o.a, I o.b, I o.k, I o.v.t, I o.v.n, .string o.v.s, I o.w.t, I o.w.n, .string o.w.s] 26)) from (Below.refl _ _).alloc (Nat.le_refl _) _)
  cases hx0 : inn o.a 16 with
  | true =>
    rw [hx0] at E
    go_enter Tryz.func52, Tryz.ntmps52
    go_wp2_with (go_at_call 92; refine (in_c _ _ _).mono ?_; (try rw [hx0]); rintro e w1 ⟨rfl, hw⟩; replace hw := hw.symm; subst hw)
    go_ret
    exact ⟨by rw [E.out]; first | rfl | simp, HB.out⟩
  | false =>
    rw [hx0] at E
    go_enter Tryz.func52, Tryz.ntmps52
    go_wp2_with (go_at_call 92; refine (in_c _ _ _).mono ?_; (try rw [hx0]); rintro e w1 ⟨rfl, hw⟩; replace hw := hw.symm; subst hw)
    go_ret
    exact ⟨by rw [E.out]; first | rfl | simp, HB.out⟩
set_option maxRecDepth 20000 in
set_option maxHeartbeats 2000000 in
theorem opcheck8 (o : Opr) (w : World) (h : o.kind = 8) : Calls Tryz.prog 52 #[o.val] w fun e w' => e = .returned (.bool (chk o)) ∧ Below w.heap.size w w' := by
  have e : chk o = inn o.a 4 := by unfold chk; rw [if_neg (by omega : ¬ (o.kind = 1)), if_neg (by omega : ¬ (o.kind = 2)), if_neg (by omega : ¬ (o.kind = 3 ∨ o.kind = 4 ∨ o.kind = 11)), if_neg (by omega : ¬ (o.kind = 5)), if_neg (by omega : ¬ (o.kind = 6 ∨ o.kind = 7)), if_pos (by omega : o.kind = 8)]
  have E := Lib.hid e; clear e
  have h1' : (o.kind == 1) = false := by rw [beq_eq_false_iff_ne]; omega
  have h2' : (o.kind == 2) = false := by rw [beq_eq_false_iff_ne]; omega
  have h3' : (o.kind == 3) = false := by rw [beq_eq_false_iff_ne]; omega
  have h4' : (o.kind == 4) = false := by rw [beq_eq_false_iff_ne]; omega
  have h11' : (o.kind == 11) = false := by rw [beq_eq_false_iff_ne]; omega
  have h5' : (o.kind == 5) = false := by rw [beq_eq_false_iff_ne]; omega
  have h6' : (o.kind == 6) = false := by rw [beq_eq_false_iff_ne]; omega
  have h7' : (o.kind == 7) = false := by rw [beq_eq_false_iff_ne]; omega
  have h8' : (o.kind == 8) = true := by simp [h]
  clear h
  have HB := Lib.hid (show Below w.heap.size w (w.alloc (.cells #[I o.kind, I o.a, I o.b, I o.k, I o.v.t, I o.v.n, .string o.v.s, I o.w.t, I o.w.n, .string o.w.s] 26)) from (Below.refl _ _).alloc (Nat.le_refl _) _)
  go_enter Tryz.func52, Tryz.ntmps52
  go_wp2_with (go_at_call 92; refine (in_c _ _ _).mono ?_; rintro e w1 ⟨rfl, hw⟩; replace hw := hw.symm; subst hw)
  go_ret
  exact ⟨by rw [E.out]; first | rfl | simp, HB.out⟩
set_option maxRecDepth 20000 in
set_option maxHeartbeats 2000000 in
theorem opcheck9 (o : Opr) (w : World) (h : o.kind = 9) : Calls Tryz.prog 52 #[o.val] w fun e w' => e = .returned (.bool (chk o)) ∧ Below w.heap.size w w' := by
  have e : chk o = if inn o.k 4 then (if mayV o.v then mayV o.w else false) else false := by unfold chk; rw [if_neg (by omega : ¬ (o.kind = 1)), if_neg (by omega : ¬ (o.kind = 2)), if_neg (by omega : ¬ (o.kind = 3 ∨ o.kind = 4 ∨ o.kind = 11)), if_neg (by omega : ¬ (o.kind = 5)), if_neg (by omega : ¬ (o.kind = 6 ∨ o.kind = 7)), if_neg (by omega : ¬ (o.kind = 8)), if_pos (by omega : o.kind = 9)]
  have E := Lib.hid e; clear e
  have h1' : (o.kind == 1) = false := by rw [beq_eq_false_iff_ne]; omega
  have h2' : (o.kind == 2) = false := by rw [beq_eq_false_iff_ne]; omega
  have h3' : (o.kind == 3) = false := by rw [beq_eq_false_iff_ne]; omega
  have h4' : (o.kind == 4) = false := by rw [beq_eq_false_iff_ne]; omega
  have h11' : (o.kind == 11) = false := by rw [beq_eq_false_iff_ne]; omega
  have h5' : (o.kind == 5) = false := by rw [beq_eq_false_iff_ne]; omega
  have h6' : (o.kind == 6) = false := by rw [beq_eq_false_iff_ne]; omega
  have h7' : (o.kind == 7) = false := by rw [beq_eq_false_iff_ne]; omega
  have h8' : (o.kind == 8) = false := by rw [beq_eq_false_iff_ne]; omega
  have h9' : (o.kind == 9) = true := by simp [h]
  clear h
  have HB := Lib.hid (show Below w.heap.size w (w.alloc (.cells #[I o.kind, I o.a, I o.b, I o.k, I o.v.t, I o.v.n, .string o.v.s, I o.w.t, I o.w.n, .string o.w.s] 26)) from (Below.refl _ _).alloc (Nat.le_refl _) _)
  have b0 : (w.alloc (.cells #[I o.kind, I o.a, I o.b, I o.k, I o.v.t, I o.v.n, .string o.v.s, I o.w.t, I o.w.n, .string o.w.s] 26)).cell? ⟨w.heap.size, 0, none⟩ = some (I o.kind) := by simp
  have b1 : (w.alloc (.cells #[I o.kind, I o.a, I o.b, I o.k, I o.v.t, I o.v.n, .string o.v.s, I o.w.t, I o.w.n, .string o.w.s] 26)).cell? ⟨w.heap.size, 1, none⟩ = some (I o.a) := by simp
  have b2 : (w.alloc (.cells #[I o.kind, I o.a, I o.b, I o.k, I o.v.t, I o.v.n, .string o.v.s, I o.w.t, I o.w.n, .string o.w.s] 26)).cell? ⟨w.heap.size, 2, none⟩ = some (I o.b) := by simp
  have b3 : (w.alloc (.cells #[I o.kind, I o.a, I o.b, I o.k, I o.v.t, I o.v.n, .string o.v.s, I o.w.t, I o.w.n, .string o.w.s] 26)).cell? ⟨w.heap.size, 3, none⟩ = some (I o.k) := by simp
  have b4 : (w.alloc (.cells #[I o.kind, I o.a, I o.b, I o.k, I o.v.t, I o.v.n, .string o.v.s, I o.w.t, I o.w.n, .string o.w.s] 26)).cell? ⟨w.heap.size, 4, none⟩ = some (I o.v.t) := by simp
  have b5 : (w.alloc (.cells #[I o.kind, I o.a, I o.b, I o.k, I o.v.t, I o.v.n, .string o.v.s, I o.w.t, I o.w.n, .string o.w.s] 26)).cell? ⟨w.heap.size, 5, none⟩ = some (I o.v.n) := by simp
  have b6 : (w.alloc (.cells #[I o.kind, I o.a, I o.b, I o.k, I o.v.t, I o.v.n, .string o.v.s, I o.w.t, I o.w.n, .string o.w.s] 26)).cell? ⟨w.heap.size, 6, none⟩ = some (.string o.v.s) := by simp
  have b7 : (w.alloc (.cells #[I o.kind, I o.a, I o.b, I o.k, I o.v.t, I o.v.n, .string o.v.s, I o.w.t, I o.w.n, .string o.w.s] 26)).cell? ⟨w.heap.size, 7, none⟩ = some (I o.w.t) := by simp
  have b8 : (w.alloc (.cells #[I o.kind, I o.a, I o.b, I o.k, I o.v.t, I o.v.n, .string o.v.s, I o.w.t, I o.w.n, .string o.w.s] 26)).cell? ⟨w.heap.size, 8, none⟩ = some (I o.w.n) := by simp
  have b9 : (w.alloc (.cells #[I o.kind, I o.a, I o.b, I o.k, I o.v.t, I o.v.n, .string o.v.s, I o.w.t, I o.w.n, .string o.w.s] 26)).cell? ⟨w.heap.size, 9, none⟩ = some (.string o.w.s) := by simp
  cases hx0 : inn o.k 4 with
  | true =>
    rw [hx0] at E
    cases hx1 : mayV o.v with
    | true =>
      rw [hx1] at E
      go_enter Tryz.func52, Tryz.ntmps52
      go_wp2_with (first
        | (go_at_call 92; refine (in_c _ _ _).mono ?_; (try rw [hx0]); (try rw [hx1]); rintro e w1 ⟨rfl, hw⟩; replace hw := hw.symm; subst hw)
        | (go_at_call_of 93 (o.v.t); refine (may_c o.v _).mono ?_; (try rw [hx0]); (try rw [hx1]); rintro e w1 ⟨rfl, hb1⟩; replace b0 := cell_keep hb1 b0; replace b1 := cell_keep hb1 b1; replace b2 := cell_keep hb1 b2; replace b3 := cell_keep hb1 b3; replace b4 := cell_keep hb1 b4; replace b5 := cell_keep hb1 b5; replace b6 := cell_keep hb1 b6; replace b7 := cell_keep hb1 b7; replace b8 := cell_keep hb1 b8; replace b9 := cell_keep hb1 b9; have HB1 := Lib.hid hb1; clear hb1)
        | (go_at_call_of 93 (o.w.t); refine (may_c o.w _).mono ?_; (try rw [hx0]); (try rw [hx1]); rintro e w2 ⟨rfl, hb2⟩; have HB2 := Lib.hid hb2; clear hb2))
      go_ret
      exact ⟨by rw [E.out]; first | rfl | simp, below_then (below_then HB.out HB.out.size HB1.out) (Nat.le_trans HB.out.size HB1.out.size) HB2.out⟩
    | false =>
      rw [hx1] at E
      go_enter Tryz.func52, Tryz.ntmps52
      go_wp2_with (first
        | (go_at_call 92; refine (in_c _ _ _).mono ?_; (try rw [hx0]); (try rw [hx1]); rintro e w1 ⟨rfl, hw⟩; replace hw := hw.symm; subst hw)
        | (go_at_call_of 93 (o.v.t); refine (may_c o.v _).mono ?_; (try rw [hx0]); (try rw [hx1]); rintro e w1 ⟨rfl, hb1⟩; replace b0 := cell_keep hb1 b0; replace b1 := cell_keep hb1 b1; replace b2 := cell_keep hb1 b2; replace b3 := cell_keep hb1 b3; replace b4 := cell_keep hb1 b4; replace b5 := cell_keep hb1 b5; replace b6 := cell_keep hb1 b6; replace b7 := cell_keep hb1 b7; replace b8 := cell_keep hb1 b8; replace b9 := cell_keep hb1 b9; have HB1 := Lib.hid hb1; clear hb1)
        | (go_at_call_of 93 (o.w.t); refine (may_c o.w _).mono ?_; (try rw [hx0]); (try rw [hx1]); rintro e w2 ⟨rfl, hb2⟩; have HB2 := Lib.hid hb2; clear hb2))
      go_ret
      exact ⟨by rw [E.out]; first | rfl | simp, below_then HB.out HB.out.size HB1.out⟩
  | false =>
    rw [hx0] at E
    go_enter Tryz.func52, Tryz.ntmps52
    go_wp2_with (go_at_call 92; refine (in_c _ _ _).mono ?_; (try rw [hx0]); rintro e w1 ⟨rfl, hw⟩; replace hw := hw.symm; subst hw)
    go_ret
    exact ⟨by rw [E.out]; first | rfl | simp, HB.out⟩
set_option maxRecDepth 20000 in
set_option maxHeartbeats 2000000 in
theorem opcheck10 (o : Opr) (w : World) (h : o.kind = 10) : Calls Tryz.prog 52 #[o.val] w fun e w' => e = .returned (.bool (chk o)) ∧ Below w.heap.size w w' := by
  have e : chk o = if inn o.a 16 then inn o.b 17 else false := by unfold chk; rw [if_neg (by omega : ¬ (o.kind = 1)), if_neg (by omega : ¬ (o.kind = 2)), if_neg (by omega : ¬ (o.kind = 3 ∨ o.kind = 4 ∨ o.kind = 11)), if_neg (by omega : ¬ (o.kind = 5)), if_neg (by omega : ¬ (o.kind = 6 ∨ o.kind = 7)), if_neg (by omega : ¬ (o.kind = 8)), if_neg (by omega : ¬ (o.kind = 9)), if_pos (by omega : o.kind = 10)]
  have E := Lib.hid e; clear e
  have h1' : (o.kind == 1) = false := by rw [beq_eq_false_iff_ne]; omega
  have h2' : (o.kind == 2) = false := by rw [beq_eq_false_iff_ne]; omega
  have h3' : (o.kind == 3) = false := by rw [beq_eq_false_iff_ne]; omega
  have h4' : (o.kind == 4) = false := by rw [beq_eq_false_iff_ne]; omega
  have h11' : (o.kind == 11) = false := by rw [beq_eq_false_iff_ne]; omega
  have h5' : (o.kind == 5) = false := by rw [beq_eq_false_iff_ne]; omega
  have h6' : (o.kind == 6) = false := by rw [beq_eq_false_iff_ne]; omega
  have h7' : (o.kind == 7) = false := by rw [beq_eq_false_iff_ne]; omega
  have h8' : (o.kind == 8) = false := by rw [beq_eq_false_iff_ne]; omega
  have h9' : (o.kind == 9) = false := by rw [beq_eq_false_iff_ne]; omega
  have h10' : (o.kind == 10) = true := by simp [h]
  clear h
  have HB := Lib.hid (show Below w.heap.size w (w.alloc (.cells #[I o.kind, I o.a, I o.b, I o.k, I o.v.t, I o.v.n, .string o.v.s, I o.w.t, I o.w.n, .string o.w.s] 26)) from (Below.refl _ _).alloc (Nat.le_refl _) _)
  cases hx0 : inn o.a 16 with
  | true =>
    rw [hx0] at E
    go_enter Tryz.func52, Tryz.ntmps52
    go_wp2_with (go_at_call 92; refine (in_c _ _ _).mono ?_; (try rw [hx0]); rintro e w1 ⟨rfl, hw⟩; replace hw := hw.symm; subst hw)
    go_ret
    exact ⟨by rw [E.out]; first | rfl | simp, HB.out⟩
  | false =>
    rw [hx0] at E
    go_enter Tryz.func52, Tryz.ntmps52
    go_wp2_with (go_at_call 92; refine (in_c _ _ _).mono ?_; (try rw [hx0]); rintro e w1 ⟨rfl, hw⟩; replace hw := hw.symm; subst hw)
    go_ret
    exact ⟨by rw [E.out]; first | rfl | simp, HB.out⟩
set_option maxRecDepth 20000 in
set_option maxHeartbeats 2000000 in
theorem opcheck12 (o : Opr) (w : World) (h : o.kind = 12) : Calls Tryz.prog 52 #[o.val] w fun e w' => e = .returned (.bool (chk o)) ∧ Below w.heap.size w w' := by
  have e : chk o = if inn o.a 4 then inn o.b 4 else false := by unfold chk; rw [if_neg (by omega : ¬ (o.kind = 1)), if_neg (by omega : ¬ (o.kind = 2)), if_neg (by omega : ¬ (o.kind = 3 ∨ o.kind = 4 ∨ o.kind = 11)), if_neg (by omega : ¬ (o.kind = 5)), if_neg (by omega : ¬ (o.kind = 6 ∨ o.kind = 7)), if_neg (by omega : ¬ (o.kind = 8)), if_neg (by omega : ¬ (o.kind = 9)), if_neg (by omega : ¬ (o.kind = 10)), if_pos (by omega : o.kind = 12)]
  have E := Lib.hid e; clear e
  have h1' : (o.kind == 1) = false := by rw [beq_eq_false_iff_ne]; omega
  have h2' : (o.kind == 2) = false := by rw [beq_eq_false_iff_ne]; omega
  have h3' : (o.kind == 3) = false := by rw [beq_eq_false_iff_ne]; omega
  have h4' : (o.kind == 4) = false := by rw [beq_eq_false_iff_ne]; omega
  have h11' : (o.kind == 11) = false := by rw [beq_eq_false_iff_ne]; omega
  have h5' : (o.kind == 5) = false := by rw [beq_eq_false_iff_ne]; omega
  have h6' : (o.kind == 6) = false := by rw [beq_eq_false_iff_ne]; omega
  have h7' : (o.kind == 7) = false := by rw [beq_eq_false_iff_ne]; omega
  have h8' : (o.kind == 8) = false := by rw [beq_eq_false_iff_ne]; omega
  have h9' : (o.kind == 9) = false := by rw [beq_eq_false_iff_ne]; omega
  have h10' : (o.kind == 10) = false := by rw [beq_eq_false_iff_ne]; omega
  have h12' : (o.kind == 12) = true := by simp [h]
  clear h
  have HB := Lib.hid (show Below w.heap.size w (w.alloc (.cells #[I o.kind, I o.a, I o.b, I o.k, I o.v.t, I o.v.n, .string o.v.s, I o.w.t, I o.w.n, .string o.w.s] 26)) from (Below.refl _ _).alloc (Nat.le_refl _) _)
  cases hx0 : inn o.a 4 with
  | true =>
    rw [hx0] at E
    go_enter Tryz.func52, Tryz.ntmps52
    go_wp2_with (go_at_call 92; refine (in_c _ _ _).mono ?_; (try rw [hx0]); rintro e w1 ⟨rfl, hw⟩; replace hw := hw.symm; subst hw)
    go_ret
    exact ⟨by rw [E.out]; first | rfl | simp, HB.out⟩
  | false =>
    rw [hx0] at E
    go_enter Tryz.func52, Tryz.ntmps52
    go_wp2_with (go_at_call 92; refine (in_c _ _ _).mono ?_; (try rw [hx0]); rintro e w1 ⟨rfl, hw⟩; replace hw := hw.symm; subst hw)
    go_ret
    exact ⟨by rw [E.out]; first | rfl | simp, HB.out⟩
set_option maxRecDepth 20000 in
set_option maxHeartbeats 2000000 in
theorem opcheck0 (o : Opr) (w : World) (h : o.kind < 1 ∨ 12 < o.kind) : Calls Tryz.prog 52 #[o.val] w fun e w' => e = .returned (.bool (chk o)) ∧ Below w.heap.size w w' := by
  have e : chk o = false := by unfold chk; rw [if_neg (by omega : ¬ (o.kind = 1)), if_neg (by omega : ¬ (o.kind = 2)), if_neg (by omega : ¬ (o.kind = 3 ∨ o.kind = 4 ∨ o.kind = 11)), if_neg (by omega : ¬ (o.kind = 5)), if_neg (by omega : ¬ (o.kind = 6 ∨ o.kind = 7)), if_neg (by omega : ¬ (o.kind = 8)), if_neg (by omega : ¬ (o.kind = 9)), if_neg (by omega : ¬ (o.kind = 10)), if_neg (by omega : ¬ (o.kind = 12))]
  have E := Lib.hid e; clear e
  have h1' : (o.kind == 1) = false := by rw [beq_eq_false_iff_ne]; omega
  have h2' : (o.kind == 2) = false := by rw [beq_eq_false_iff_ne]; omega
  have h3' : (o.kind == 3) = false := by rw [beq_eq_false_iff_ne]; omega
  have h4' : (o.kind == 4) = false := by rw [beq_eq_false_iff_ne]; omega
  have h11' : (o.kind == 11) = false := by rw [beq_eq_false_iff_ne]; omega
  have h5' : (o.kind == 5) = false := by rw [beq_eq_false_iff_ne]; omega
  have h6' : (o.kind == 6) = false := by rw [beq_eq_false_iff_ne]; omega
  have h7' : (o.kind == 7) = false := by rw [beq_eq_false_iff_ne]; omega
  have h8' : (o.kind == 8) = false := by rw [beq_eq_false_iff_ne]; omega
  have h9' : (o.kind == 9) = false := by rw [beq_eq_false_iff_ne]; omega
  have h10' : (o.kind == 10) = false := by rw [beq_eq_false_iff_ne]; omega
  have h12' : (o.kind == 12) = false := by rw [beq_eq_false_iff_ne]; omega
  clear h
  have HB := Lib.hid (show Below w.heap.size w (w.alloc (.cells #[I o.kind, I o.a, I o.b, I o.k, I o.v.t, I o.v.n, .string o.v.s, I o.w.t, I o.w.n, .string o.w.s] 26)) from (Below.refl _ _).alloc (Nat.le_refl _) _)
  go_enter Tryz.func52, Tryz.ntmps52
  go_wp2_with (go_at_call 92; refine (in_c _ _ _).mono ?_; rintro e w1 ⟨rfl, hw⟩; replace hw := hw.symm; subst hw)
  go_ret
  exact ⟨by rw [E.out]; rfl, HB.out⟩
theorem opcheck_c (o : Opr) (w : World) : Calls Tryz.prog 52 #[o.val] w fun e w' => e = .returned (.bool (chk o)) ∧ Below w.heap.size w w' := by
  by_cases h0 : o.kind < 1 ∨ 12 < o.kind
  · exact opcheck0 o w h0
  have : o.kind = 1 ∨ o.kind = 2 ∨ o.kind = 3 ∨ o.kind = 4 ∨ o.kind = 5 ∨ o.kind = 6 ∨ o.kind = 7 ∨ o.kind = 8 ∨ o.kind = 9 ∨ o.kind = 10 ∨ o.kind = 11 ∨ o.kind = 12 := by omega
  rcases this with h | h | h | h | h | h | h | h | h | h | h | h
  · exact opcheck1 o w h
  · exact opcheck2 o w h
  · exact opcheck3 o w h
  · exact opcheck4 o w h
  · exact opcheck5 o w h
  · exact opcheck6 o w h
  · exact opcheck7 o w h
  · exact opcheck8 o w h
  · exact opcheck9 o w h
  · exact opcheck10 o w h
  · exact opcheck11 o w h
  · exact opcheck12 o w h
end Go.Proofs.YtabdldfigjkfaaaGreatDoor
