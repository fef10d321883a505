import Derived.Test.YtabdldfigjkfaaaGreatDoorE1
namespace Go.Proofs.YtabdldfigjkfaaaGreatDoor
open Go Go.RowKit

abbrev ck : Key := ⟨7, 0, 0⟩
def cstr (n : Int) : Str := if 0 < n then idsS [n] else emp
/-- op.put: what a key has, and the count. -/
def putM (m : KM) (k : Key) (v : Str) : KM :=
  if hasV (mget m k) = false ∧ hasV v = true then gput (gput m k v) ck (cstr (wrap64 (cntM (gput m k v) + 1)))
  else if hasV (mget m k) = true ∧ hasV v = false then gput (gput m k v) ck (cstr (wrap64 (cntM (gput m k v) - 1)))
  else gput m k v
theorem heldG4 {W W1 W2 : World} {r : Nat} {a a0 a1 a2 : Addr} {v v0 v1 v2 : Value} (hb : W1.grownBy W2 (some r)) (n : a.block ≠ r) (n0 : a0.block ≠ r) (n1 : a1.block ≠ r) (n2 : a2.block ≠ r)
    (h : W.grownBy W1 (some r) ∧ W1.cell? a = some v ∧ W1.cell? a0 = some v0 ∧ W1.cell? a1 = some v1 ∧ W1.cell? a2 = some v2) :
    W.grownBy W2 (some r) ∧ W2.cell? a = some v ∧ W2.cell? a0 = some v0 ∧ W2.cell? a1 = some v1 ∧ W2.cell? a2 = some v2 :=
  ⟨World.grownBy.trans h.1 hb, hb.cell h.2.1 (by simpa using n), hb.cell h.2.2.1 (by simpa using n0), hb.cell h.2.2.2.1 (by simpa using n1), hb.cell h.2.2.2.2 (by simpa using n2)⟩
theorem grown_drew (w : World) (row : Option Nat) : w.grownBy w.drew row := ⟨rfl, rfl, rfl, Nat.le_refl _, fun _ _ _ => rfl⟩
theorem mapE_ne {w : World} {r : Nat} {m : KM} (h : MapE w r m) {j i : Nat} {v : Value} (hj : w.cell? ⟨j, i, none⟩ = some v) : j ≠ r := by
  rintro rfl
  obtain ⟨es, c, h2, _⟩ := h
  simp [World.cell?, h2] at hj
theorem hasV_t {s : Str} (h : hasV s = true) : s.toList.isEmpty = false ∧ (!s.toList.isEmpty) = true := isEmpty_f (by simpa [hasV] using h)
theorem hasV_f {s : Str} (h : hasV s = false) : s.toList = [] ∧ s.toList.isEmpty = true ∧ (!s.toList.isEmpty) = false := isEmpty_t (by simpa [hasV] using h)
theorem heldG1 {W W1 W2 : World} {r : Nat} {a : Addr} {v : Value} (hb : W1.grownBy W2 (some r)) (n : a.block ≠ r) (h : W.grownBy W1 (some r) ∧ W1.cell? a = some v) : W.grownBy W2 (some r) ∧ W2.cell? a = some v :=
  ⟨World.grownBy.trans h.1 hb, hb.cell h.2 (by simpa using n)⟩
theorem arr_one (w : World) (n : Int) : Arr (w.alloc (.cells #[I n] 3)) (some ⟨w.heap.size, 0, none⟩) ([n].map I) := fun _ => ⟨_, _, rfl, fun j hj => by
  have : j = 0 := by simp at hj; omega
  subst this; simp⟩
set_option maxRecDepth 20000 in
set_option maxHeartbeats 2000000 in
theorem put_c (j g r : Nat) (m : KM) (k : Key) (v : Str) (w : World) (hG : GraphAt w g r m) (hj : w.cell? ⟨j, 0, none⟩ = some (sto g)) (hs : (mget (gput m k v) ck).size ≤ 1099511627776) :
    Calls Tryz.prog 164 #[ptr j, k.val, .string v] w fun e w' => e = .returned (.tuple #[]) ∧ MapE w' r (putM m k v) ∧ w.grownBy w' (some r) := by
  have hjr := mapE_ne hG.2 hj
  have hrl := hG.2.lt
  have hB : Below w.heap.size w (w.alloc (.cells #[I k.kind, I k.a, I k.b] 76)) := (Below.refl _ _).alloc (Nat.le_refl _) _
  have hG1 : GraphAt (w.alloc (.cells #[I k.kind, I k.a, I k.b] 76)) g r m := hG.below hB
  have c0 : (w.alloc (.cells #[I k.kind, I k.a, I k.b] 76)).cell? ⟨w.heap.size, 0, none⟩ = some (I k.kind) := by simp
  have c1 : (w.alloc (.cells #[I k.kind, I k.a, I k.b] 76)).cell? ⟨w.heap.size, 1, none⟩ = some (I k.a) := by simp
  have c2 : (w.alloc (.cells #[I k.kind, I k.a, I k.b] 76)).cell? ⟨w.heap.size, 2, none⟩ = some (I k.b) := by simp
  have hj1 := cell_keep hB hj
  have hbr : w.heap.size ≠ r := by omega
  have HB := Lib.hid (grown_below hB (some r))
  have HG := Lib.hid hG1
  clear hG hG1 hB hj
  go_enter Tryz.func164, Tryz.ntmps164
  go_wp2_with (fail)
  generalize w.alloc (.cells #[I k.kind, I k.a, I k.b] 76) = W at *
  generalize w.heap.size = b0 at *
  go_region_held3 (fun W' => W.grownBy W' (some r) ∧ W'.cell? ⟨j, 0, none⟩ = some (sto g) ∧ W'.cell? ⟨b0, 0, none⟩ = some (I k.kind) ∧ W'.cell? ⟨b0, 1, none⟩ = some (I k.a) ∧ W'.cell? ⟨b0, 2, none⟩ = some (I k.b))
    (first | exact ⟨grown_drew _ _, hj1, c0, c1, c2⟩ | exact heldG4 (grown_below (by assumption) _) hjr hbr hbr hbr (by assumption))
    (first
      | (go_at_call 65; refine (gget_c g r m k _ (HG.out.below (Below.refl _ _).drew)).mono ?_; rintro e w4 ⟨rfl, hb4⟩; have HG4 := Lib.hid ((HG.out.below (Below.refl _ _).drew).below hb4)))
  rename_i hH
  obtain ⟨hg4, d, d0, d1, d2⟩ := hH
  have HX4 := Lib.hid (World.grownBy.trans HB.out hg4)
  clear hb4 hg4 hj1 c0 c1 c2
  go_wp2_with (fail)
  go_region_held3 (fun W' => w4.grownBy W' (some r) ∧ W'.cell? ⟨j, 0, none⟩ = some (sto g) ∧ W'.cell? ⟨b0, 0, none⟩ = some (I k.kind) ∧ W'.cell? ⟨b0, 1, none⟩ = some (I k.a) ∧ W'.cell? ⟨b0, 2, none⟩ = some (I k.b))
    (first | exact ⟨grown_drew _ _, d, d0, d1, d2⟩ | exact heldG4 (by assumption) hjr hbr hbr hbr (by assumption))
    (first
      | (go_at_call 54; refine (gput_c g r m k v _ (HG4.out.below (Below.refl _ _).drew)).mono ?_; rintro e w5 ⟨rfl, hm5, hb5⟩; have HG5 := Lib.hid ((HG4.out.below (Below.refl _ _).drew).put hb5 hm5)))
  rename_i hH
  obtain ⟨hg5, d5, -, -, -⟩ := hH
  have HX5 := Lib.hid (World.grownBy.trans HX4.out hg5)
  clear hb5 hg5 d d0 d1 d2 hm5
  have hcn := count_c j g r _ w5 HG5.out d5 hs
  cases h1 : hasV (mget m k) with
  | false =>
    obtain ⟨e1, e2, e3⟩ := hasV_f h1
    cases h2 : hasV v with
    | false =>
      have HP := Lib.hid (show putM m k v = gput m k v by unfold putM; rw [h1, h2]; simp)
      obtain ⟨f1, f2, f3⟩ := hasV_f h2
      clear h1 h2
      go_wp2_with (go_at_call 56; refine hcn.mono ?_; rintro e w6 ⟨rfl, hb6⟩; have HB6 := Lib.hid hb6; clear hb6)
      go_returns
      exact ⟨rfl, by rw [HP.out]; exact (HG5.out.below HB6.out).2, World.grownBy.trans HX5.out (grown_below HB6.out _)⟩
    | true =>
      have HP := Lib.hid (show putM m k v = gput (gput m k v) ck (cstr (wrap64 (cntM (gput m k v) + 1))) by unfold putM; rw [h1, h2]; simp)
      obtain ⟨f1, f2⟩ := hasV_t h2
      clear h1 h2
      generalize hn : wrap64 (cntM (gput m k v) + 1) = n' at *
      have hn := Lib.hid hn
      by_cases hp : 0 < n'
      · have hcs := Lib.hid (show cstr n' = idsS [n'] by unfold cstr; rw [if_pos hp])
        go_wp2_with (first
          | (go_at_call 56; refine hcn.mono ?_; rintro e w6 ⟨rfl, hb6⟩; have d6 := cell_keep hb6 d5; have HG6 := Lib.hid (HG5.out.below hb6); have HX6 := Lib.hid (World.grownBy.trans HX5.out (grown_below hb6 _)); clear hb6)
          | (go_at_call 165; refine (ids_c [n'] _ 1 _ (arr_one w6 n') (by simp)).mono ?_; rintro e w7 ⟨rfl, hb7⟩; have hb7' : Below w6.heap.size w6 w7 := below_then ((Below.refl _ _).alloc (Nat.le_refl _) _) (by simp) hb7; have d7 := cell_keep hb7' d6; have HG7 := Lib.hid (HG6.out.below hb7'); have HX7 := Lib.hid (World.grownBy.trans HX6.out (grown_below hb7' _)); clear hb7 hb7'))
        go_region_held3 (fun W' => w7.grownBy W' (some r) ∧ W'.cell? ⟨j, 0, none⟩ = some (sto g))
          (first | exact ⟨grown_drew _ _, d7⟩ | exact heldG1 (grown_below (by assumption) _) hjr (by assumption) | exact heldG1 (by assumption) hjr (by assumption))
          (first
            | (go_at_call 110; refine (key_c _ _ _ _).mono ?_; rintro e w8 ⟨rfl, hb8⟩; have HG8 := Lib.hid ((HG7.out.below (Below.refl _ _).drew).below hb8))
            | (go_at_call 54; refine (gput_c g r (gput m k v) ck (idsS [n']) _ HG8.out).mono ?_; rintro e w9 ⟨rfl, hm9, hb9⟩; have HM9 := Lib.hid hm9; clear hm9))
        rename_i hH
        have HH := Lib.hid hH.1
        clear hH
        go_wp2_with (fail)
        go_end0
        exact ⟨rfl, by rw [HP.out, hcs.out]; exact HM9.out, World.grownBy.trans HX7.out HH.out⟩
      · have hcs := Lib.hid (show cstr n' = emp by unfold cstr; rw [if_neg hp])
        go_wp2_with (go_at_call 56; refine hcn.mono ?_; rintro e w6 ⟨rfl, hb6⟩; have d6 := cell_keep hb6 d5; have HG6 := Lib.hid (HG5.out.below hb6); have HX6 := Lib.hid (World.grownBy.trans HX5.out (grown_below hb6 _)); clear hb6)
        go_region_held3 (fun W' => w6.grownBy W' (some r) ∧ W'.cell? ⟨j, 0, none⟩ = some (sto g))
          (first | exact ⟨grown_drew _ _, d6⟩ | exact heldG1 (grown_below (by assumption) _) hjr (by assumption) | exact heldG1 (by assumption) hjr (by assumption))
          (first
            | (go_at_call 110; refine (key_c _ _ _ _).mono ?_; rintro e w8 ⟨rfl, hb8⟩; have HG8 := Lib.hid ((HG6.out.below (Below.refl _ _).drew).below hb8))
            | (go_at_call 54; refine (gput_c g r (gput m k v) ck (emp) _ HG8.out).mono ?_; rintro e w9 ⟨rfl, hm9, hb9⟩; have HM9 := Lib.hid hm9; clear hm9))
        rename_i hH
        have HH := Lib.hid hH.1
        clear hH
        go_wp2_with (fail)
        go_end0
        exact ⟨rfl, by rw [HP.out, hcs.out]; exact HM9.out, World.grownBy.trans HX6.out HH.out⟩
  | true =>
    obtain ⟨e1, e2⟩ := hasV_t h1
    cases h2 : hasV v with
    | true =>
      have HP := Lib.hid (show putM m k v = gput m k v by unfold putM; rw [h1, h2]; simp)
      obtain ⟨f1, f2⟩ := hasV_t h2
      clear h1 h2
      go_wp2_with (go_at_call 56; refine hcn.mono ?_; rintro e w6 ⟨rfl, hb6⟩; have HB6 := Lib.hid hb6; clear hb6)
      go_returns
      exact ⟨rfl, by rw [HP.out]; exact (HG5.out.below HB6.out).2, World.grownBy.trans HX5.out (grown_below HB6.out _)⟩
    | false =>
      have HP := Lib.hid (show putM m k v = gput (gput m k v) ck (cstr (wrap64 (cntM (gput m k v) - 1))) by unfold putM; rw [h1, h2]; simp)
      obtain ⟨f1, f2, f3⟩ := hasV_f h2
      clear h1 h2
      generalize hn : wrap64 (cntM (gput m k v) - 1) = n' at *
      have hn := Lib.hid hn
      by_cases hp : 0 < n'
      · have hcs := Lib.hid (show cstr n' = idsS [n'] by unfold cstr; rw [if_pos hp])
        go_wp2_with (first
          | (go_at_call 56; refine hcn.mono ?_; rintro e w6 ⟨rfl, hb6⟩; have d6 := cell_keep hb6 d5; have HG6 := Lib.hid (HG5.out.below hb6); have HX6 := Lib.hid (World.grownBy.trans HX5.out (grown_below hb6 _)); clear hb6)
          | (go_at_call 165; refine (ids_c [n'] _ 1 _ (arr_one w6 n') (by simp)).mono ?_; rintro e w7 ⟨rfl, hb7⟩; have hb7' : Below w6.heap.size w6 w7 := below_then ((Below.refl _ _).alloc (Nat.le_refl _) _) (by simp) hb7; have d7 := cell_keep hb7' d6; have HG7 := Lib.hid (HG6.out.below hb7'); have HX7 := Lib.hid (World.grownBy.trans HX6.out (grown_below hb7' _)); clear hb7 hb7'))
        go_region_held3 (fun W' => w7.grownBy W' (some r) ∧ W'.cell? ⟨j, 0, none⟩ = some (sto g))
          (first | exact ⟨grown_drew _ _, d7⟩ | exact heldG1 (grown_below (by assumption) _) hjr (by assumption) | exact heldG1 (by assumption) hjr (by assumption))
          (first
            | (go_at_call 110; refine (key_c _ _ _ _).mono ?_; rintro e w8 ⟨rfl, hb8⟩; have HG8 := Lib.hid ((HG7.out.below (Below.refl _ _).drew).below hb8))
            | (go_at_call 54; refine (gput_c g r (gput m k v) ck (idsS [n']) _ HG8.out).mono ?_; rintro e w9 ⟨rfl, hm9, hb9⟩; have HM9 := Lib.hid hm9; clear hm9))
        rename_i hH
        have HH := Lib.hid hH.1
        clear hH
        go_wp2_with (fail)
        go_end0
        exact ⟨rfl, by rw [HP.out, hcs.out]; exact HM9.out, World.grownBy.trans HX7.out HH.out⟩
      · have hcs := Lib.hid (show cstr n' = emp by unfold cstr; rw [if_neg hp])
        go_wp2_with (go_at_call 56; refine hcn.mono ?_; rintro e w6 ⟨rfl, hb6⟩; have d6 := cell_keep hb6 d5; have HG6 := Lib.hid (HG5.out.below hb6); have HX6 := Lib.hid (World.grownBy.trans HX5.out (grown_below hb6 _)); clear hb6)
        go_region_held3 (fun W' => w6.grownBy W' (some r) ∧ W'.cell? ⟨j, 0, none⟩ = some (sto g))
          (first | exact ⟨grown_drew _ _, d6⟩ | exact heldG1 (grown_below (by assumption) _) hjr (by assumption) | exact heldG1 (by assumption) hjr (by assumption))
          (first
            | (go_at_call 110; refine (key_c _ _ _ _).mono ?_; rintro e w8 ⟨rfl, hb8⟩; have HG8 := Lib.hid ((HG6.out.below (Below.refl _ _).drew).below hb8))
            | (go_at_call 54; refine (gput_c g r (gput m k v) ck (emp) _ HG8.out).mono ?_; rintro e w9 ⟨rfl, hm9, hb9⟩; have HM9 := Lib.hid hm9; clear hm9))
        rename_i hH
        have HH := Lib.hid hH.1
        clear hH
        go_wp2_with (fail)
        go_end0
        exact ⟨rfl, by rw [HP.out, hcs.out]; exact HM9.out, World.grownBy.trans HX6.out HH.out⟩
end Go.Proofs.YtabdldfigjkfaaaGreatDoor
