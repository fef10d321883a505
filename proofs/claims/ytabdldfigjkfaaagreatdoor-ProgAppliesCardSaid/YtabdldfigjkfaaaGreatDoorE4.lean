import Derived.Test.YtabdldfigjkfaaaGreatDoorE3
namespace Go.Proofs.YtabdldfigjkfaaaGreatDoor
open Go Go.RowKit

/-- All texts are of so many bytes at most. -/
def Sz (b : Nat) (m : KM) : Prop := ∀ p ∈ m, p.2.size ≤ b
theorem Sz.get {b : Nat} {m : KM} (h : Sz b m) (k : Key) : (mget m k).size ≤ b := by
  unfold mget
  cases hf : m.find? (fun p => decide (p.1 = k)) with
  | none => exact Nat.zero_le _
  | some p => exact h p (List.mem_of_find?_eq_some hf)
theorem Sz.mono {b c : Nat} {m : KM} (h : Sz b m) (hbc : b ≤ c) : Sz c m := fun p hp => Nat.le_trans (h p hp) hbc
theorem Sz.nil (b : Nat) : Sz b [] := fun p hp => by cases hp
theorem Sz.mput {b : Nat} {m : KM} (h : Sz b m) (k : Key) {v : Str} (hv : v.size ≤ b) : Sz b (mput m k v) := by
  unfold YtabdldfigjkfaaaGreatDoor.mput
  intro p hp
  split at hp
  · rcases List.mem_or_eq_of_mem_set hp with hp | rfl
    · exact h p hp
    · exact hv
  · rcases List.mem_append.1 hp with hp | hp
    · exact h p hp
    · simp at hp; subst hp; exact hv
theorem Sz.mdel {b : Nat} {m : KM} (h : Sz b m) (k : Key) : Sz b (mdel m k) := by
  unfold YtabdldfigjkfaaaGreatDoor.mdel
  intro p hp
  split at hp
  · exact h p (List.mem_of_mem_eraseIdx hp)
  · exact h p hp
theorem Sz.gput {b : Nat} {m : KM} (h : Sz b m) (k : Key) {v : Str} (hv : v.size ≤ b) : Sz b (gput m k v) := by
  unfold YtabdldfigjkfaaaGreatDoor.gput
  split
  · exact h.mdel k
  · exact h.mput k hv
theorem idsS_size (l : List Int) : (idsS l).size = 4 * l.length := by
  have : ∀ (l : List Int) (s : Str), (l.foldl (fun s n => s ++ num4 (IntKind.u32.wrap n)) s).size = s.size + 4 * l.length := by
    intro l
    induction l with
    | nil => intro s; simp
    | cons x l ih => intro s; rw [List.foldl_cons, ih, size_app]; simp only [List.length_cons]; have : (num4 (IntKind.u32.wrap x)).size = 4 := rfl; omega
  have h := this l emp
  rw [show (emp : Str).size = 0 from rfl, Nat.zero_add] at h
  exact h
theorem cstr_size (n : Int) : (cstr n).size ≤ 4 := by
  unfold cstr; split
  · rw [idsS_size]; simp
  · exact Nat.zero_le _
theorem Sz.putM {b : Nat} {m : KM} (h : Sz b m) (hb : 4 ≤ b) (k : Key) {v : Str} (hv : v.size ≤ b) : Sz b (putM m k v) := by
  unfold YtabdldfigjkfaaaGreatDoor.putM
  have h1 := h.gput k hv
  split
  · exact h1.gput ck (Nat.le_trans (cstr_size _) hb)
  · split
    · exact h1.gput ck (Nat.le_trans (cstr_size _) hb)
    · exact h1
theorem takeIds_size (s : Str) : (takeIds s).1.length * 4 ≤ s.size := by
  unfold takeIds
  cases h : parseL s.data.toList with
  | none => simp
  | some l =>
    have := parseL_len _ _ l (Nat.le_refl _) h
    rw [str_len] at this
    simp only
    split
    · show l.length * 4 ≤ s.size; omega
    · simp
theorem turn_size (s : Str) (n : Int) (is : Bool) : (idsS (turnL (takeIds s).1 n is)).size ≤ s.size + 4 := by
  rw [idsS_size]
  have h1 := turnL_len (takeIds s).1 n is
  have h2 := takeIds_size s
  omega
theorem Sz.turnM {b : Nat} {m : KM} (h : Sz b m) (hb : 4 ≤ b) (k a n : Int) (is : Bool) : Sz (b + 4) (turnM m k a n is) :=
  (h.mono (Nat.le_add_right b 4)).putM (by omega) _ (Nat.le_trans (turn_size _ n is) (by have := h.get ⟨k, a, 0⟩; omega))

theorem cum1 {W X Y : World} (h : Below W.heap.size W X) (k : Below X.heap.size X Y) : Below W.heap.size W Y := below_then h h.size k
theorem cum2 {W X Y : World} {o : Obj} (h : Below W.heap.size W X) (k : Below (X.alloc o).heap.size (X.alloc o) Y) : Below W.heap.size W Y := below_then (h.alloc h.size o) (h.alloc h.size o).size k
def nodeM (m : KM) (o : Opr) : KM × Int := if hasV (mget m ⟨1, o.a, 0⟩) then (m, 5) else (turnM (putM m ⟨1, o.a, 0⟩ (idsS [o.b])) 5 o.b o.a true, 0)
theorem Sz.nodeM {b : Nat} {m : KM} (h : Sz b m) (hb : 4 ≤ b) (o : Opr) : Sz (b + 4) (nodeM m o).1 := by
  unfold YtabdldfigjkfaaaGreatDoor.nodeM
  split
  · exact h.mono (Nat.le_add_right b 4)
  · exact (h.putM hb _ (by rw [idsS_size]; simpa using hb)).turnM hb _ _ _ _
theorem heldS4 {W W1 W2 : World} {a a0 a1 : Addr} {v v0 v1 : Value} (hb : Below W1.heap.size W1 W2)
    (h : Below W.heap.size W W1 ∧ W1.cell? a = some v ∧ W1.cell? a0 = some v0 ∧ W1.cell? a1 = some v1) :
    Below W.heap.size W W2 ∧ W2.cell? a = some v ∧ W2.cell? a0 = some v0 ∧ W2.cell? a1 = some v1 :=
  ⟨below_then h.1 h.1.size hb, cell_keep hb h.2.1, cell_keep hb h.2.2.1, cell_keep hb h.2.2.2⟩
theorem heldG3 {W W1 W2 : World} {r : Nat} {a a0 a1 : Addr} {v v0 v1 : Value} (hb : W1.grownBy W2 (some r)) (n : a.block ≠ r) (n0 : a0.block ≠ r) (n1 : a1.block ≠ r)
    (h : W.grownBy W1 (some r) ∧ W1.cell? a = some v ∧ W1.cell? a0 = some v0 ∧ W1.cell? a1 = some v1) :
    W.grownBy W2 (some r) ∧ W2.cell? a = some v ∧ W2.cell? a0 = some v0 ∧ W2.cell? a1 = some v1 :=
  ⟨World.grownBy.trans h.1 hb, hb.cell h.2.1 (by simpa using n), hb.cell h.2.2.1 (by simpa using n0), hb.cell h.2.2.2 (by simpa using n1)⟩
set_option maxRecDepth 20000 in
set_option maxHeartbeats 2000000 in
theorem node_c (j g r : Nat) (m : KM) (o : Opr) (w : World) (b : Nat) (hS : Sz b m) (hb : 4 ≤ b) (hb2 : b ≤ 1099511620000) (hG : GraphAt w g r m) (hj : w.cell? ⟨j, 0, none⟩ = some (sto g)) (hja : w.cell? ⟨j, 2, none⟩ = some (I o.a)) (hjb : w.cell? ⟨j, 3, none⟩ = some (I o.b)) :
    Calls Tryz.prog 98 #[ptr j] w fun e w' => e = .returned (I (nodeM m o).2) ∧ MapE w' r (nodeM m o).1 ∧ w.grownBy w' (some r) := by
  have hjr := mapE_ne hG.2 hj
  have hth := there_c j g r m o.a w hG hj
  have HG := Lib.hid hG
  clear hG
  cases hv : hasV (mget m ⟨1, o.a, 0⟩) with
  | true =>
    rw [hv] at hth
    have HN := Lib.hid (show nodeM m o = (m, 5) by unfold nodeM; rw [hv]; rfl)
    clear hv
    go_enter Tryz.func98, Tryz.ntmps98
    go_wp2_with (go_at_call 163; refine hth.mono ?_; rintro e w1 ⟨rfl, hb1⟩; have HB1 := Lib.hid hb1; clear hb1)
    go_returns
    exact ⟨by rw [HN.out]; rfl, by rw [HN.out]; exact (HG.out.below HB1.out).2, grown_below HB1.out _⟩
  | false =>
    rw [hv] at hth
    have HN := Lib.hid (show nodeM m o = (turnM (putM m ⟨1, o.a, 0⟩ (idsS [o.b])) 5 o.b o.a true, 0) by unfold nodeM; rw [hv]; rfl)
    have hz1 : (idsS [o.b]).size ≤ b := by rw [idsS_size]; simpa using hb
    have hs1 : (mget (gput m ⟨1, o.a, 0⟩ (idsS [o.b])) ck).size ≤ 1099511627776 := Nat.le_trans ((hS.gput _ hz1).get _) (by omega)
    have hS1 := hS.putM hb ⟨1, o.a, 0⟩ hz1
    have hs2 : (mget (putM m ⟨1, o.a, 0⟩ (idsS [o.b])) ⟨5, o.b, 0⟩).size ≤ 1099511627770 := Nat.le_trans (hS1.get _) (by omega)
    have hs3 : (mget (gput (putM m ⟨1, o.a, 0⟩ (idsS [o.b])) ⟨5, o.b, 0⟩ (idsS (turnL (takeIds (mget (putM m ⟨1, o.a, 0⟩ (idsS [o.b])) ⟨5, o.b, 0⟩)).1 o.a true))) ck).size ≤ 1099511627776 :=
      Nat.le_trans (((hS1.mono (Nat.le_add_right b 4)).gput _ (Nat.le_trans (turn_size _ _ _) (by have := hS1.get ⟨5, o.b, 0⟩; omega))).get _) (by omega)
    clear hv hS hS1 hz1
    go_enter Tryz.func98, Tryz.ntmps98
    go_wp2_with (go_at_call 163; refine hth.mono ?_; rintro e w1 ⟨rfl, hb1⟩; have HB1 := Lib.hid hb1; replace hj := cell_keep hb1 hj; replace hja := cell_keep hb1 hja; replace hjb := cell_keep hb1 hjb; clear hb1)
    have hcum : Below w1.heap.size w1 w1.drew := (Below.refl _ _).drew
    have HG1 := Lib.hid (HG.out.below HB1.out)
    go_region_held3 (fun W' => w1.grownBy W' (some r) ∧ W'.cell? ⟨j, 0, none⟩ = some (sto g) ∧ W'.cell? ⟨j, 2, none⟩ = some (I o.a) ∧ W'.cell? ⟨j, 3, none⟩ = some (I o.b))
      (first | exact ⟨grown_drew _ _, hj, hja, hjb⟩ | exact heldG3 hg5 hjr hjr hjr (by assumption) | exact heldG3 (grown_below hb3 _) hjr hjr hjr (by assumption) | exact heldG3 (grown_below hb4 _) hjr hjr hjr (by assumption) | exact heldG3 (World.grownBy_alloc _ _ _) hjr hjr hjr (by assumption))
      (first
        | (go_at_call 110; refine (key_c _ _ _ _).mono ?_; rintro e w3 ⟨rfl, hb3⟩; have hcum : Below w1.heap.size w1 w3 := (by first | exact cum1 hcum hb3 | exact cum2 hcum hb3))
        | (go_at_call 165; refine (ids_c [o.b] _ 1 _ ?_ (by simp)).mono ?_; (first | exact arr_one _ _ | exact (arr_one w1.drew _).below hb3); rintro e w4 ⟨rfl, hb4⟩; have hcum : Below w1.heap.size w1 w4 := (by first | exact cum1 hcum hb4 | exact cum2 hcum hb4))
        | (go_at_call 164; refine (put_c j g r m ⟨1, o.a, 0⟩ (idsS [o.b]) _ ?_ ?_ hs1).mono ?_; (exact HG1.out.below hcum); (exact cell_keep hcum hj); rintro e w5 ⟨rfl, hm5, hg5⟩; have HG5 := Lib.hid ((HG1.out.below hcum).put hg5 hm5); clear hm5))
    all_goals
      rename_i hH
      obtain ⟨hg1, f0, f1, f2⟩ := hH
      have HX := Lib.hid (World.grownBy.trans (grown_below HB1.out _) hg1)
      clear hg1 hj hja hjb
      go_wp2_with (fail)
      go_still_tail 11, (by kernel_rfl)
      change wpList _ _ _ _ _ w5.drew
      go_wp2_with (go_at_call 166; refine (turn_c j g r _ 5 o.b o.a true w5.drew (HG5.out.below (Below.refl _ _).drew) f0 hs2 hs3).mono ?_; rintro e w6 ⟨rfl, hm6, hg6⟩; have HM6 := Lib.hid hm6; have HG6 := Lib.hid hg6; clear hm6 hg6)
      go_returns
      exact ⟨by rw [HN.out]; rfl, by rw [HN.out]; exact HM6.out, World.grownBy.trans HX.out (World.grownBy.trans (grown_drew _ _) HG6.out)⟩
end Go.Proofs.YtabdldfigjkfaaaGreatDoor
