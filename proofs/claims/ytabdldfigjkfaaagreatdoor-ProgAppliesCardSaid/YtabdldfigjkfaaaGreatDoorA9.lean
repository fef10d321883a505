import Derived.Test.YtabdldfigjkfaaaGreatDoorA8
import Derived.Sort.Grow
namespace Go.Proofs.YtabdldfigjkfaaaGreatDoor
open Go Go.RowKit

theorem Arr.int {w : World} {A : Option Addr} {l : List Int} (h : Arr w A (l.map I)) (i : Nat) (hi : i < l.length) : ∃ b o, A = some ⟨b, o, none⟩ ∧ b < w.heap.size ∧ w.cell? ⟨b, o + i, none⟩ = some (I l[i]) := by
  obtain ⟨b, o, rfl, hc⟩ := h (by intro e; simp at e; subst e; simp at hi)
  have := hc i (by simpa using hi)
  exact ⟨b, o, rfl, World.block_lt_of_cell? w _ this, by simpa using this⟩

def cmpI (a b : Int) : Int := if a < b then -1 else if b < a then 1 else 0
theorem cmpInt_c (a b : Int) (w : World) : Calls Tryz.prog 192 #[I a, I b] w fun e w' => e = .returned (I (cmpI a b)) ∧ w' = w := by
  have h0 : (a != a) = false := by simp
  have h1 : (b != b) = false := by simp
  by_cases h : a < b
  · have e : cmpI a b = -1 := by simp [cmpI, h]
    have E := Lib.hid e; clear e
    go_enter Tryz.func192, Tryz.ntmps192
    go_wp2
    go_ret
    exact ⟨by rw [E.out]; rfl, rfl⟩
  · by_cases h2 : b < a
    · have e : cmpI a b = 1 := by simp [cmpI, h, h2]
      have E := Lib.hid e; clear e
      go_enter Tryz.func192, Tryz.ntmps192
      go_wp2
      go_ret
      exact ⟨by rw [E.out]; rfl, rfl⟩
    · have e : cmpI a b = 0 := by simp [cmpI, h, h2]
      have E := Lib.hid e; clear e
      go_enter Tryz.func192, Tryz.ntmps192
      go_wp2
      go_ret
      exact ⟨by rw [E.out]; rfl, rfl⟩
theorem cmpInt64_c (a b : Int) (w : World) : Calls Tryz.prog 221 #[I a, I b] w fun e w' => e = .returned (I (cmpI a b)) ∧ w' = w := by
  have h0 : (a != a) = false := by simp
  have h1 : (b != b) = false := by simp
  by_cases h : a < b
  · have e : cmpI a b = -1 := by simp [cmpI, h]
    have E := Lib.hid e; clear e
    go_enter Tryz.func221, Tryz.ntmps221
    go_wp2
    go_ret
    exact ⟨by rw [E.out]; rfl, rfl⟩
  · by_cases h2 : b < a
    · have e : cmpI a b = 1 := by simp [cmpI, h, h2]
      have E := Lib.hid e; clear e
      go_enter Tryz.func221, Tryz.ntmps221
      go_wp2
      go_ret
      exact ⟨by rw [E.out]; rfl, rfl⟩
    · have e : cmpI a b = 0 := by simp [cmpI, h, h2]
      have E := Lib.hid e; clear e
      go_enter Tryz.func221, Tryz.ntmps221
      go_wp2
      go_ret
      exact ⟨by rw [E.out]; rfl, rfl⟩

def orL : List Int → Int
  | [] => 0
  | x :: l => if x ≠ 0 then x else orL l
theorem orL_hit (l : List Int) (n : Nat) (hn : n < l.length) (h : l[n] ≠ 0) (h0 : ∀ j (hj : j < l.length), j < n → l[j] = 0) : orL l = l[n] := by
  induction l generalizing n with
  | nil => simp at hn
  | cons x l ih =>
    cases n with
    | zero => have : x ≠ 0 := h; simp [orL, this]
    | succ n =>
      have hx := h0 0 (by simp) (by omega)
      simp at hx
      rw [orL, if_neg (by simp [hx])]
      exact ih n (by simpa using hn) h (fun j hj hjn => h0 (j + 1) (by simpa using hj) (by omega))
theorem orL_miss (l : List Int) (h0 : ∀ j (hj : j < l.length), l[j] = 0) : orL l = 0 := by
  induction l with
  | nil => rfl
  | cons x l ih =>
    have hx := h0 0 (by simp)
    simp at hx
    rw [orL, if_neg (by simp [hx])]
    exact ih (fun j hj => h0 (j + 1) (by simpa using hj))
set_option maxHeartbeats 400000 in
theorem cmpOr_c (l : List Int) (A : Option Addr) (c : Nat) (w : World) (hA : Arr w A (l.map I)) (hl : l.length ≤ 1099511627776) :
    Calls Tryz.prog 191 #[.slice A l.length c] w fun e w' => e = .returned (I (orL l)) ∧ w' = w := by
  have HA := Lib.hid hA; clear hA
  go_enter Tryz.func191, Tryz.ntmps191
  go_wp2
  go_loop [8] (fun i => ∃ n : Nat, n ≤ l.length ∧ i = .int .i64 n ∧ Hid (∀ j (hj : j < l.length), j < n → l[j] = 0)) (fun i => l.length - (intOf i).toNat)
  case atStart => exact ⟨0, Nat.zero_le _, rfl, fun j hj h => by omega⟩
  case round =>
    obtain ⟨n, hn, rfl, h0⟩ := hrel
    by_cases hlt : n < l.length
    · obtain ⟨b, o, rfl, hbz, d0⟩ := HA.out.int n hlt
      by_cases hx : l[n] = 0
      · have hb : (l[n] != 0) = false := by simp [hx]
        have HX := Lib.hid hx; clear hx
        go_wp2
        go_round
        case rel => exact ⟨n + 1, by omega, by go_num, fun j hj h => (Nat.lt_succ_iff_lt_or_eq.1 h).elim (fun h => h0.out j hj h) (fun h => by subst h; exact HX.out)⟩
        case measure => simp [intOf]; omega
      · have hb : (l[n] != 0) = true := by simp [hx]
        have E := Lib.hid (orL_hit l n hlt hx h0.out)
        clear hx
        go_wp2
        go_ret
        exact ⟨by rw [E.out]; rfl, rfl⟩
    · have E := Lib.hid (orL_miss l (fun j hj => h0.out j hj (by omega)))
      go_wp2
      go_ret
      exact ⟨by rw [E.out]; rfl, rfl⟩

/-- The world has grown: new blocks, draws; nothing else. -/
structure Gr (w w' : World) : Prop where
  below : Below w.heap.size w w'
  drawn : w.drawn ≤ w'.drawn
theorem Gr.refl (w : World) : Gr w w := ⟨Below.refl _ _, Nat.le_refl _⟩
theorem Gr.trans {a b c : World} (h : Gr a b) (k : Gr b c) : Gr a c := ⟨below_then h.below h.below.size k.below, Nat.le_trans h.drawn k.drawn⟩
theorem Gr.alloc (w : World) (o : Obj) : Gr w (w.alloc o) := ⟨(Below.refl _ _).alloc (Nat.le_refl _) _, Nat.le_refl _⟩
theorem Gr.drew (w : World) : Gr w w.drew := ⟨(Below.refl _ _).drew, Nat.le_succ _⟩
theorem Gr.drewN (w : World) (n : Nat) : Gr w (w.drewN n) := ⟨(Below.refl _ _).drewN _, Nat.le_add_right _ _⟩
theorem Gr.grow {w w' : World} (h : Gr w w') : ∃ q os, w' = Go.Sort.grow (w.drewN q) os := by
  obtain ⟨⟨h1, h2, h3, h4, h5⟩, h6⟩ := h
  refine ⟨w'.drawn - w.drawn, w'.heap.extract w.heap.size w'.heap.size, ?_⟩
  obtain ⟨heap, tape, drawn, os, output⟩ := w'
  simp only at h1 h2 h3 h4 h5 h6
  subst h1; subst h2; subst h3
  have hh : heap = w.heap ++ heap.extract w.heap.size heap.size := by
    apply Array.ext
    · simp; omega
    · intro i hi hi'
      by_cases h : i < w.heap.size
      · have := h5 i h
        rw [Array.getElem?_eq_getElem hi, Array.getElem?_eq_getElem h] at this
        rw [Array.getElem_append_left h]; exact Option.some.inj this
      · rw [Array.getElem_append_right (by omega)]; simp; congr 1; omega
  show World.mk heap _ drawn _ _ = World.mk (w.heap ++ _) _ (w.drawn + (drawn - w.drawn)) _ _
  rw [← hh, Nat.add_sub_cancel' h6]; rfl

def keyCmp (a b : Key) : Int := orL [cmpI a.kind b.kind, cmpI a.a b.a, cmpI a.b b.b]
theorem cmpI_lt (a b : Int) : (cmpI a b < 0) ↔ a < b := by unfold cmpI; split <;> (try split) <;> omega
theorem cmpI_zero (a b : Int) : (cmpI a b = 0) ↔ a = b := by unfold cmpI; split <;> (try split) <;> omega
theorem keyCmp_lt (a b : Key) : decide (keyCmp a b < 0) = a.lt b := by
  unfold keyCmp Key.lt
  have s : ∀ x, cmpI x x = 0 := fun x => (cmpI_zero x x).2 rfl
  by_cases h1 : a.kind = b.kind
  · have e1 : cmpI a.kind b.kind = 0 := (cmpI_zero _ _).2 h1
    by_cases h2 : a.a = b.a
    · have e2 : cmpI a.a b.a = 0 := (cmpI_zero _ _).2 h2
      have e3 := cmpI_lt a.b b.b
      by_cases h3 : cmpI a.b b.b = 0
      · have := (cmpI_zero _ _).1 h3; simp [orL, h1, h2, this, s]
      · simp [orL, h1, h2, h3, e3, s]
    · have e2 : cmpI a.a b.a ≠ 0 := fun e => h2 ((cmpI_zero _ _).1 e)
      have e3 := cmpI_lt a.a b.a
      simp [orL, e2, h1, h2, e3, s]
  · have e1 : cmpI a.kind b.kind ≠ 0 := fun e => h1 ((cmpI_zero _ _).1 e)
    have e3 := cmpI_lt a.kind b.kind
    simp [orL, e1, h1, e3]

set_option maxRecDepth 20000 in
set_option maxHeartbeats 1000000 in
theorem kcompare_c (a b : Key) (w : World) : Calls Tryz.prog 113 #[a.val, b.val] w fun e w' => e = .returned (I (keyCmp a b)) ∧ Gr w w' := by
  have hB : Gr w ((w.alloc (.cells #[I a.kind, I a.a, I a.b] 76)).alloc (.cells #[I b.kind, I b.a, I b.b] 76)) := (Gr.alloc w _).trans (Gr.alloc _ _)
  have a0 : ((w.alloc (.cells #[I a.kind, I a.a, I a.b] 76)).alloc (.cells #[I b.kind, I b.a, I b.b] 76)).cell? ⟨w.heap.size, 0, none⟩ = some (I a.kind) := by simp
  have a1 : ((w.alloc (.cells #[I a.kind, I a.a, I a.b] 76)).alloc (.cells #[I b.kind, I b.a, I b.b] 76)).cell? ⟨w.heap.size, 1, none⟩ = some (I a.a) := by simp
  have a2 : ((w.alloc (.cells #[I a.kind, I a.a, I a.b] 76)).alloc (.cells #[I b.kind, I b.a, I b.b] 76)).cell? ⟨w.heap.size, 2, none⟩ = some (I a.b) := by simp
  have b0 : ((w.alloc (.cells #[I a.kind, I a.a, I a.b] 76)).alloc (.cells #[I b.kind, I b.a, I b.b] 76)).cell? ⟨w.heap.size + 1, 0, none⟩ = some (I b.kind) := by simp
  have b1 : ((w.alloc (.cells #[I a.kind, I a.a, I a.b] 76)).alloc (.cells #[I b.kind, I b.a, I b.b] 76)).cell? ⟨w.heap.size + 1, 1, none⟩ = some (I b.a) := by simp
  have b2 : ((w.alloc (.cells #[I a.kind, I a.a, I a.b] 76)).alloc (.cells #[I b.kind, I b.a, I b.b] 76)).cell? ⟨w.heap.size + 1, 2, none⟩ = some (I b.b) := by simp
  have HB := Lib.hid hB; clear hB
  go_enter Tryz.func113, Tryz.ntmps113
  go_wp2_with (fail)
  generalize (w.alloc (.cells #[I a.kind, I a.a, I a.b] 76)).alloc (.cells #[I b.kind, I b.a, I b.b] 76) = W at *
  refine wp_region_still_tail 15 (by kernel_rfl) (by kernel_rfl) ?_
  simp only [List.take_succ_cons, List.take_zero, List.drop_succ_cons, List.drop_zero]
  repeat (first | still_step | still_call (cmpInt_c _ _ _))
  try refine wpStill_nil ?_
  change wpList _ _ _ _ _ W.drew
  have hc := cmpOr_c [cmpI a.kind b.kind, cmpI a.a b.a, cmpI a.b b.b] (some ⟨W.heap.size, 0, none⟩) 3 (W.drew.alloc (.cells #[I (cmpI a.kind b.kind), I (cmpI a.a b.a), I (cmpI a.b b.b)] 3)) (fun _ => ⟨W.heap.size, 0, rfl, fun j hj => by
    have : j < 3 := hj
    rw [show W.heap.size = W.drew.heap.size from rfl, Nat.zero_add, World.cell?_alloc_new]
    rcases j with _ | _ | _ | j <;> first | rfl | omega⟩) (by simp)
  go_wp2_with (go_at_call 191; refine hc.mono ?_; rintro e w1 ⟨rfl, rfl⟩)
  go_ret
  exact ⟨rfl, (HB.out.trans (Gr.drew W)).trans (Gr.alloc _ _)⟩
set_option maxHeartbeats 400000 in
theorem less_g (a b : Key) (w : World) : Calls Tryz.prog 60 #[a.val, b.val] w fun e w' => e = .returned (.bool (a.lt b)) ∧ Gr w w' := by
  have hB : Gr w ((w.alloc (.cells #[I a.kind, I a.a, I a.b] 76)).alloc (.cells #[I b.kind, I b.a, I b.b] 76)) := (Gr.alloc w _).trans (Gr.alloc _ _)
  have HB := Lib.hid hB; clear hB
  have E := Lib.hid (keyCmp_lt a b)
  go_enter Tryz.func60, Tryz.ntmps60
  go_wp2_with (go_at_call 113; refine (kcompare_c a b _).mono ?_; rintro e w1 ⟨rfl, hb1⟩; have HB1 := Lib.hid hb1; clear hb1)
  go_ret
  exact ⟨by rw [← E.out]; rfl, HB.out.trans HB1.out⟩
theorem less_c (a b : Key) (w : World) : Calls Tryz.prog 60 #[a.val, b.val] w fun e w' => e = .returned (.bool (a.lt b)) ∧ Below w.heap.size w w' :=
  (less_g a b w).mono fun _ _ ⟨he, hb⟩ => ⟨he, hb.below⟩
end Go.Proofs.YtabdldfigjkfaaaGreatDoor
