import Derived.Test.YtabdldfigjkfaaaGreatDoorG3
import Derived.Test.YtabdldfigjkfaaaGreatDoorG5
namespace Go.Proofs.YtabdldfigjkfaaaGreatDoor
open Go Go.RowKit

/-! ogivelaw16.awake. -/
def oneN : Opr := ⟨1, 2, 1, 0, noVal, noVal⟩
def oneS : Opr := ⟨8, 1, 0, 0, noVal, noVal⟩
def m1 : KM := [(⟨1, 2, 0⟩, num4 1), (⟨7, 0, 0⟩, num4 2), (⟨5, 1, 0⟩, num4 2)]
theorem sort1 (x : Int) : sortL [x] = [x] := by simp [sortL]
theorem nodeM_0 : nodeM [] oneN = (m1, 0) := by
  unfold nodeM turnM turnL oneN
  have e : takeIds (mget (putM [] ⟨1, 2, 0⟩ (idsS [1])) ⟨5, 1, 0⟩) = ([], 0) := by decide +kernel
  simp only
  rw [e]
  have e2 : without ([] : List Int) 2 ++ [2] = [2] := rfl
  simp only [e2, sort1, if_true]
  decide +kernel
theorem nodeM_1 : nodeM m1 oneN = (m1, 5) := by decide +kernel
theorem cntM_1 : cntM m1 = 2 := by decide +kernel
theorem takeIds_1 : takeIds (mget m1 ⟨5, 1, 0⟩) = ([2], 0) := by decide +kernel
theorem sz_1 : Sz 4 m1 := by unfold Sz; decide +kernel
theorem do_0 (g r : Nat) : DoIs oneN g r 50 [] m1 0 ([], noVal) := by
  intro W hG
  have h := do_c 98 0 oneN [] m1 0 [] noVal 50 W g r hG rfl (fun args w => by kernel_rfl) (by have := node_is [] oneN 4 (Sz.nil _) (by omega) (by omega); rwa [nodeM_0] at this) (by decide) (Nat.le_trans (sz_1.get _) (by omega))
  have e1 : doRes m1 0 50 [] noVal = ([], noVal) := by unfold doRes; rw [cntM_1]; rfl
  have e2 : doCode m1 0 50 = 0 := by unfold doCode; rw [cntM_1]; rfl
  rw [e1, e2] at h
  exact h
theorem do_1 (g r : Nat) : DoIs oneN g r 50 m1 m1 5 ([], noVal) := by
  intro W hG
  have h := do_c 98 0 oneN m1 m1 5 [] noVal 50 W g r hG rfl (fun args w => by kernel_rfl) (by have := node_is m1 oneN 4 sz_1 (by omega) (by omega); rwa [nodeM_1] at this) (by decide) (Nat.le_trans (sz_1.get _) (by omega))
  have e1 : doRes m1 5 50 [] noVal = ([], noVal) := by unfold doRes; rfl
  have e2 : doCode m1 5 50 = 5 := by unfold doCode; rfl
  rw [e1, e2] at h
  exact h
theorem do_2 (g r : Nat) : DoIs oneS g r 50 m1 m1 0 ([2], noVal) := by
  intro W hG
  have h := do_c 105 7 oneS m1 m1 0 [2] noVal 50 W g r hG rfl (fun args w => by kernel_rfl) (by have := scan_is m1 oneS (Nat.le_trans (sz_1.get _) (by omega)); rwa [show (⟨5, oneS.a, 0⟩ : Key) = ⟨5, 1, 0⟩ from rfl, takeIds_1] at this) (by decide) (Nat.le_trans (sz_1.get _) (by omega))
  have e1 : doRes m1 0 50 [2] noVal = ([2], noVal) := by unfold doRes; rw [cntM_1]; rfl
  have e2 : doCode m1 0 50 = 0 := by unfold doCode; rw [cntM_1]; rfl
  rw [e1, e2] at h
  exact h
theorem pchk_0 : pchk [oneN, oneN] = (0, 0) := by decide +kernel
theorem pchk_1 : pchk [oneN, oneS] = (0, 0) := by decide +kernel
theorem exec_0 (A : Option Addr) (c g r : Nat) (w : World) (hG : GraphAt w g r []) (hA : Arr w A ([oneN, oneN].flatMap Opr.cs)) : Calls Tryz.prog 24 #[ptr g, I 50, .slice A 2 c] w fun e w' => ExecBad w g 1 5 e w' := by
  have h := exec_c [oneN, oneN] A c g r 50 [] (fun i => if i = 0 then [] else m1) (fun _ => ([], noVal)) (fun i => if i = 0 then 0 else 5) 1 1 5 [] m1 rfl (by simp) (fun i hi => by obtain rfl : i = 0 := (by omega); rfl) (.inr ⟨by simp, by decide, rfl, rfl, rfl, rfl⟩) w hG hA (by simp) pchk_0 (by
    intro g r i hi h1
    have : i = 0 ∨ i = 1 := by omega
    rcases this with rfl | rfl
    · exact do_0 g r
    · exact do_1 g r)
  exact h.mono fun e w' hp => by rwa [if_neg (by decide)] at hp
theorem exec_1 (A : Option Addr) (c g r : Nat) (w : World) (hG : GraphAt w g r []) (hA : Arr w A ([oneN, oneS].flatMap Opr.cs)) : Calls Tryz.prog 24 #[ptr g, I 50, .slice A 2 c] w fun e w' => ExecOk w [([], noVal), ([2], noVal)] m1 e w' := by
  have h := exec_c [oneN, oneS] A c g r 50 [] (fun i => if i = 0 then [] else m1) (fun i => if i = 0 then ([], noVal) else ([2], noVal)) (fun _ => 0) 2 0 0 [([], noVal), ([2], noVal)] m1 rfl (by simp) (by intro i hi; rfl) (.inl ⟨by simp, rfl, rfl, rfl, rfl⟩) w hG hA (by simp) pchk_1 (by
    intro g r i hi h1
    have : i = 0 ∨ i = 1 := by simp at hi; omega
    rcases this with rfl | rfl
    · exact do_0 g r
    · exact do_2 g r)
  exact h.mono fun e w' hp => by rwa [if_pos rfl] at hp
def OneAt (w : World) (b : Nat) : Prop := w.heap[b]? = some (.cells oneN.cs.toArray 26)
theorem arr_heap {w : World} {b : Nat} {cs : Array Value} {t : TypeId} {fr : Nat × Nat} (h : w.heap[b]? = some (.cells cs t fr)) : Arr w (some ⟨b, 0, none⟩) cs.toList := fun _ => ⟨b, 0, rfl, fun j hj => by
  rw [Nat.zero_add, cell_of_row w b j cs t fr h]
  simp⟩
theorem one10 {w : World} {b : Nat} (h : OneAt w b) : w.cell? ⟨b, 0, none⟩ = some (I 1) ∧ w.cell? ⟨b, 1, none⟩ = some (I 2) ∧ w.cell? ⟨b, 2, none⟩ = some (I 1) ∧ w.cell? ⟨b, 3, none⟩ = some (I 0) ∧ w.cell? ⟨b, 4, none⟩ = some (I 0) ∧ w.cell? ⟨b, 5, none⟩ = some (I 0) ∧ w.cell? ⟨b, 6, none⟩ = some (.string emp) ∧ w.cell? ⟨b, 7, none⟩ = some (I 0) ∧ w.cell? ⟨b, 8, none⟩ = some (I 0) ∧ w.cell? ⟨b, 9, none⟩ = some (.string emp) :=
  ⟨cell_of_heap h 0 _ rfl, cell_of_heap h 1 _ rfl, cell_of_heap h 2 _ rfl, cell_of_heap h 3 _ rfl, cell_of_heap h 4 _ rfl, cell_of_heap h 5 _ rfl, cell_of_heap h 6 _ rfl, cell_of_heap h 7 _ rfl, cell_of_heap h 8 _ rfl, cell_of_heap h 9 _ rfl⟩
theorem exec_0h (b c g r : Nat) (w : World) (hG : GraphAt w g r []) (hA : w.heap[b]? = some (.cells #[I 1, I 2, I 1, I 0, I 0, I 0, .string emp, I 0, I 0, .string emp, I 1, I 2, I 1, I 0, I 0, I 0, .string emp, I 0, I 0, .string emp] 26)) : Calls Tryz.prog 24 #[ptr g, I 50, .slice (some ⟨b, 0, none⟩) 2 c] w fun e w' => ExecBad w g 1 5 e w' :=
  exec_0 _ c g r w hG (arr_heap hA)
theorem exec_1h (b c g r : Nat) (w : World) (hG : GraphAt w g r []) (hA : w.heap[b]? = some (.cells #[I 1, I 2, I 1, I 0, I 0, I 0, .string emp, I 0, I 0, .string emp, I 8, I 1, I 0, I 0, I 0, I 0, .string ⟨#[]⟩, I 0, I 0, .string ⟨#[]⟩] 26)) : Calls Tryz.prog 24 #[ptr g, I 50, .slice (some ⟨b, 0, none⟩) 2 c] w fun e w' => ExecOk w [([], noVal), ([2], noVal)] m1 e w' :=
  exec_1 _ c g r w hG (arr_heap hA)
theorem bcell {W w1 : World} (hb : Below W.heap.size W w1) : (∀ b o, b < W.heap.size → w1.cell? ⟨b, o, none⟩ = W.cell? ⟨b, o, none⟩) ∧ (∀ b o, b < W.heap.size → w1.frozen? ⟨b, o, none⟩ = W.frozen? ⟨b, o, none⟩) :=
  ⟨fun b o h => hb.cell (p := ⟨b, o, none⟩) h, fun b o h => hb.frozen (p := ⟨b, o, none⟩) h⟩
abbrev Box10 (w : World) (b : Nat) : Prop := w.cell? ⟨b, 0, none⟩ = some (I 1) ∧ w.cell? ⟨b, 1, none⟩ = some (I 2) ∧ w.cell? ⟨b, 2, none⟩ = some (I 1) ∧ w.cell? ⟨b, 3, none⟩ = some (I 0) ∧ w.cell? ⟨b, 4, none⟩ = some (I 0) ∧ w.cell? ⟨b, 5, none⟩ = some (I 0) ∧ w.cell? ⟨b, 6, none⟩ = some (.string emp) ∧ w.cell? ⟨b, 7, none⟩ = some (I 0) ∧ w.cell? ⟨b, 8, none⟩ = some (I 0) ∧ w.cell? ⟨b, 9, none⟩ = some (.string emp)
theorem box_mk {w : World} {b : Nat} (h : Box10 w b) : Box10 w.drew b := h
theorem box_keep {w w' : World} {b : Nat} (hb : Below w.heap.size w w') (h : Box10 w b) : Box10 w' b :=
  ⟨cell_keep hb h.1, cell_keep hb h.2.1, cell_keep hb h.2.2.1, cell_keep hb h.2.2.2.1, cell_keep hb h.2.2.2.2.1, cell_keep hb h.2.2.2.2.2.1, cell_keep hb h.2.2.2.2.2.2.1, cell_keep hb h.2.2.2.2.2.2.2.1, cell_keep hb h.2.2.2.2.2.2.2.2.1, cell_keep hb h.2.2.2.2.2.2.2.2.2⟩
theorem box_swap {w : World} {o o' : Obj} {b : Nat} (h : Box10 (w.alloc o) b) (hb : b < w.heap.size) : Box10 (w.alloc o') b := by
  have e : ∀ o i, (w.alloc o).cell? ⟨b, i, none⟩ = w.cell? ⟨b, i, none⟩ := fun o i => World.cell?_alloc_lt w o ⟨b, i, none⟩ hb
  unfold Box10 at *
  simpa only [e] using h
theorem heap_at {w : World} {o : Obj} {b : Nat} (h : b = w.heap.size) : (w.alloc o).heap[b]? = some o := by subst h; exact heap_alloc_new _ _
theorem heap_drew {w : World} {b : Nat} {x : Option Obj} (h : w.heap[b]? = x) : w.drew.heap[b]? = x := h
theorem have_then {p q : Prop} (h : p) (k : p → q) : q := k h
theorem cell_set {w : World} {b c i j : Nat} {v : Value} (hne : c ≠ b) : (w.setCell ⟨c, i, none⟩ v).cell? ⟨b, j, none⟩ = w.cell? ⟨b, j, none⟩ := by
  unfold World.cell?
  have : (w.setCell ⟨c, i, none⟩ v).heap[b]? = w.heap[b]? := by simp [World.setCell, Array.getElem?_modify, hne]
  rw [show (w.setCell ⟨c, i, none⟩ v).heap[(⟨b, j, none⟩ : Addr).block]? = w.heap[(⟨b, j, none⟩ : Addr).block]? from this]
theorem box_set3 {w : World} {b c : Nat} {v0 v1 v2 : Value} (h : Box10 w b) (hne : c ≠ b) : Box10 (((w.setCell ⟨c, 0, none⟩ v0).setCell ⟨c, 1, none⟩ v1).setCell ⟨c, 2, none⟩ v2) b := by
  unfold Box10 at *
  simpa only [cell_set hne] using h
theorem graph_set3 {w : World} {g r b : Nat} {m : KM} {A : Option Addr} {n c : Nat} {x y : Value} {t : TypeId} {v0 v1 v2 : Value} (h : GraphAt w g r m) (hb : w.heap[b]? = some (.cells #[.slice A n c, x, y] t)) : GraphAt (((w.setCell ⟨b, 0, none⟩ v0).setCell ⟨b, 1, none⟩ v1).setCell ⟨b, 2, none⟩ v2) g r m := by
  have hg := set3_grown w b v0 v1 v2
  have h1 : g ≠ b := by
    rintro rfl
    have := h.1
    rw [cell_of_heap hb 0 _ rfl] at this
    cases this
  have h2 : b ≠ r := mapE_ne h.2 (cell_of_heap hb 0 _ rfl)
  exact ⟨hg.cell h.1 (by simpa using h1), h.2.keep (hg.block r h.2.lt (by simpa using fun e => h2 e.symm))⟩
theorem cell4_set3 {w : World} {c b : Nat} {u x y z : Value} {t : TypeId} {v0 v1 v2 : Value} (h : w.cell? ⟨c, 4, none⟩ = some u) (hb : w.heap[b]? = some (.cells #[x, y, z] t)) : (((w.setCell ⟨b, 0, none⟩ v0).setCell ⟨b, 1, none⟩ v1).setCell ⟨b, 2, none⟩ v2).cell? ⟨c, 4, none⟩ = some u := by
  have hne : c ≠ b := by
    rintro rfl
    rw [cell_of_row w c 4 _ t _ hb] at h
    cases h
  exact (set3_grown w b v0 v1 v2).cell h (by simpa using hne)
theorem execOk_1 {w w' : World} {e : Ending} (h : ExecOk w [([], noVal), ([2], noVal)] m1 e w') : ∃ g r bR vc A' c', e = .returned (.tuple #[ptr g, .agg #[.slice (some ⟨bR, 0, none⟩) 2 vc, I 0, I 0]]) ∧ GraphAt w' g r m1 ∧ w'.cell? ⟨bR, 4, none⟩ = some (.slice A' 1 c') ∧ Below w.heap.size w w' := by
  obtain ⟨g, r, v, vs, rfl, hg, -, -, ho, hv, hb⟩ := h
  obtain ⟨A, c, hvv, ha⟩ := own_arr ho
  match vs, hv.1 with
  | [a0, a1], _ =>
    obtain ⟨A', c', h1, -⟩ := hv.2 1 (by simp) (by simp)
    simp at h1
    subst h1
    subst hvv
    obtain ⟨b, o, hA, hc⟩ := ha (by simp [resCs])
    subst hA
    have ho0 : o = 0 := by
      rcases ho.2 with ⟨h, -⟩ | ⟨_, _, _, h, _⟩
      · cases h
      · injection h with h; injection h with h; injection h
    subst ho0
    exact ⟨g, r, b, c, A', c', rfl, hg, by simpa [resCs] using hc 4 (by simp [resCs]), hb⟩
set_option maxRecDepth 20000 in
set_option maxHeartbeats 20000000 in
theorem awake22 : Awake 22 := by
  intro w
  have hB : Below w.heap.size w (w.alloc (.cells oneN.cs.toArray 26)) := (Below.refl _ _).alloc (Nat.le_refl _) _
  have h1 : OneAt (w.alloc (.cells oneN.cs.toArray 26)) w.heap.size := heap_alloc_new _ _
  have HB := Lib.hid hB
  have H1 := Lib.hid h1
  clear hB h1
  go_enter Tryz.func22, Tryz.ntmps22
  go_upto_region 2 with (fail)
  change Code.wp _ _ _ _ (w.alloc (.cells oneN.cs.toArray 26))
  generalize w.alloc (.cells oneN.cs.toArray 26) = W0 at *
  have hbl : w.heap.size < W0.heap.size := (Array.getElem?_eq_some_iff.1 H1.out).1
  generalize hb0 : w.heap.size = b0 at *
  go_cut [2, 3] (fun s2 s3 w' => ∃ g r b3, s2 = ptr g ∧ s3 = .pointer (some ⟨b3, 0, none⟩) ∧ Hid (GraphAt w' g r []) ∧ Hid (w'.cell? ⟨b3, 1, none⟩ = some (I 1)) ∧ Hid (w'.cell? ⟨b3, 2, none⟩ = some (I 5)) ∧ Hid (Below W0.heap.size W0 w'))
  case first =>
    have hs := one10 H1.out
    go_region_held3 (fun W' => Box10 W' b0)
      (first | (with_reducible exact box_mk hs) | (with_reducible exact box_keep ((Below.refl _ _).alloc (Nat.le_refl _) _) (by assumption)) | (with_reducible exact box_swap (by assumption) (by assumption)) | (with_reducible exact box_keep hb5 (by assumption)) | (with_reducible exact box_keep hb3 (by assumption)) | ((with_reducible refine box_set3 (by assumption) ?_); first | omega | (simp <;> omega)) | skip)
      (first
        | (go_at_call 16; refine (gnew_c [] none 0 _ (Arr.nil _ _) (by simp)).mono ?_; rintro e w3 ⟨g, r, rfl, hg3, -, -, hb3⟩; have hz3 : b0 < w3.heap.size := Nat.lt_of_lt_of_le (by first | omega | (simp <;> omega)) hb3.size; have hs3 := hb3.size; simp only [World.size_alloc, World.size_drew] at hs3; have HG3 := Lib.hid hg3; have hB3 : Below W0.heap.size W0 w3 := below_then (by go_grown) (by first | omega | (simp <;> omega)) hb3; clear hg3)
        | (go_at_call 24; refine (exec_0h _ _ _ _ _ (HG3.out.below (by go_grown)) (by (repeat (first | ((with_reducible refine heap_at ?_); (first | omega | (simp <;> omega))) | (with_reducible refine heap_drew ?_) | ((with_reducible refine (Below.heap_alloc _ _ _ ?_).trans ?_); (first | omega | (simp <;> omega))) | ((with_reducible refine (hb3.block _ ?_).trans ?_); (first | omega | (simp <;> omega))))))).mono ?_; rintro e w5 ⟨A5, c5, rfl, hb5⟩; have HG5 := Lib.hid ((HG3.out.below (by go_grown)).below hb5); have hz5 : b0 < w5.heap.size := Nat.lt_of_lt_of_le (by first | omega | (simp <;> omega)) hb5.size; have hs5 : W0.heap.size ≤ w5.heap.size := Nat.le_trans (by first | omega | (simp <;> omega)) hb5.size; have HB5 := Lib.hid (show Below W0.heap.size W0 w5 from below_then (by go_grown) (by first | omega | (simp <;> omega)) hb5); (first | (refine have_then (p := w5.heap[w3.heap.size + 1]? = some (.cells #[.slice none 0 0, I 0, I 0] 46)) ?_ (fun hR5 => ?_); ((with_reducible refine (hb5.block _ ?_).trans ?_); (first | omega | (simp <;> omega))); (repeat (first | ((with_reducible refine heap_at ?_); (first | omega | (simp <;> omega))) | (with_reducible refine heap_drew ?_) | ((with_reducible refine (Below.heap_alloc _ _ _ ?_).trans ?_); (first | omega | (simp <;> omega))) | ((with_reducible refine (hb3.block _ ?_).trans ?_); (first | omega | (simp <;> omega))))); obtain ⟨x0, x1, x2, y0, y1, y2⟩ := row_cells hR5; have HR5 := Lib.hid hR5; clear hR5) | (refine have_then (p := w5.heap[w3.heap.size]? = some (.cells #[.slice none 0 0, I 0, I 0] 46)) ?_ (fun hR5 => ?_); ((with_reducible refine (hb5.block _ ?_).trans ?_); (first | omega | (simp <;> omega))); (repeat (first | ((with_reducible refine heap_at ?_); (first | omega | (simp <;> omega))) | (with_reducible refine heap_drew ?_) | ((with_reducible refine (Below.heap_alloc _ _ _ ?_).trans ?_); (first | omega | (simp <;> omega))) | ((with_reducible refine (hb3.block _ ?_).trans ?_); (first | omega | (simp <;> omega))))); obtain ⟨x0, x1, x2, y0, y1, y2⟩ := row_cells hR5; have HR5 := Lib.hid hR5; clear hR5) | (refine have_then (p := w5.heap[W0.heap.size + 1]? = some (.cells #[.slice none 0 0, I 0, I 0] 46)) ?_ (fun hR5 => ?_); ((with_reducible refine (hb5.block _ ?_).trans ?_); (first | omega | (simp <;> omega))); (repeat (first | ((with_reducible refine heap_at ?_); (first | omega | (simp <;> omega))) | (with_reducible refine heap_drew ?_) | ((with_reducible refine (Below.heap_alloc _ _ _ ?_).trans ?_); (first | omega | (simp <;> omega))) | ((with_reducible refine (hb3.block _ ?_).trans ?_); (first | omega | (simp <;> omega))))); obtain ⟨x0, x1, x2, y0, y1, y2⟩ := row_cells hR5; have HR5 := Lib.hid hR5; clear hR5) | (refine have_then (p := w5.heap[W0.heap.size]? = some (.cells #[.slice none 0 0, I 0, I 0] 46)) ?_ (fun hR5 => ?_); ((with_reducible refine (hb5.block _ ?_).trans ?_); (first | omega | (simp <;> omega))); (repeat (first | ((with_reducible refine heap_at ?_); (first | omega | (simp <;> omega))) | (with_reducible refine heap_drew ?_) | ((with_reducible refine (Below.heap_alloc _ _ _ ?_).trans ?_); (first | omega | (simp <;> omega))) | ((with_reducible refine (hb3.block _ ?_).trans ?_); (first | omega | (simp <;> omega))))); obtain ⟨x0, x1, x2, y0, y1, y2⟩ := row_cells hR5; have HR5 := Lib.hid hR5; clear hR5) | skip)))
    all_goals
      go_wp2_with (fail)
      go_meet
      case rel =>
        first
          | (have HR5' := HR5.out; exact ⟨g, r, _, rfl, rfl, Lib.hid (graph_set3 HG5.out HR5.out), Lib.hid (cell_of_heap (set3 _ _ _ _ _ _ HR5.out _ _ _) 1 _ rfl), Lib.hid (cell_of_heap (set3 _ _ _ _ _ _ HR5.out _ _ _) 2 _ rfl), Lib.hid (HB5.out.grown (set3_grown _ _ _ _ _) hs5 (fun k hk => by injection hk with hk; omega))⟩)
          | exact ⟨g, r, w5.heap.size, rfl, rfl, Lib.hid (HG5.out.below ((Below.refl _ _).alloc (Nat.le_refl _) _)), Lib.hid (cell_of_heap (heap_at rfl) 1 _ rfl), Lib.hid (cell_of_heap (heap_at rfl) 2 _ rfl), Lib.hid (HB5.out.alloc hs5 _)⟩
  case rest =>
    obtain ⟨g, r, b3, rfl, rfl, hg, h31, h32, hbc⟩ := hcut
    have h1c : OneAt wc b0 := (hbc.out.block _ hbl).trans H1.out
    have hblc : b0 < wc.heap.size := (Array.getElem?_eq_some_iff.1 h1c).1
    have H1c := Lib.hid h1c
    clear h1c
    obtain ⟨wo, rfl⟩ : ∃ wo, wo = wc := ⟨_, rfl⟩
    go_upto_region 3 with (fail)
    go_cut [4, 5] (fun s4 s5 w' => ∃ g2 r2 b5 bR vs A' c', s4 = ptr g2 ∧ s5 = .pointer (some ⟨b5, 0, none⟩) ∧ Hid (GraphAt w' g2 r2 m1) ∧ Hid (w'.cell? ⟨b5, 0, none⟩ = some (.slice (some ⟨bR, 0, none⟩) 2 vs)) ∧ Hid (w'.cell? ⟨b5, 2, none⟩ = some (I 0)) ∧ Hid (w'.cell? ⟨bR, 4, none⟩ = some (.slice A' 1 c')) ∧ Hid (Below wo.heap.size wo w'))
    case first =>
      have hs := one10 H1c.out
      go_region_held3 (fun W' => Box10 W' b0)
        (first | (with_reducible exact box_mk hs) | (with_reducible exact box_keep ((Below.refl _ _).alloc (Nat.le_refl _) _) (by assumption)) | (with_reducible exact box_swap (by assumption) (by assumption)) | (with_reducible exact box_keep hb5 (by assumption)) | (with_reducible exact box_keep hb3 (by assumption)) | ((with_reducible refine box_set3 (by assumption) ?_); first | omega | (simp <;> omega)) | skip)
        (first
          | (go_at_call 16; refine (gnew_c [] none 0 _ (Arr.nil _ _) (by simp)).mono ?_; rintro e w3 ⟨g, r, rfl, hg3, -, -, hb3⟩; have hz3 : b0 < w3.heap.size := Nat.lt_of_lt_of_le (by first | omega | (simp <;> omega)) hb3.size; have hs3 := hb3.size; simp only [World.size_alloc, World.size_drew] at hs3; have HG3 := Lib.hid hg3; have hB3 : Below wo.heap.size wo w3 := below_then (by go_grown) (by first | omega | (simp <;> omega)) hb3; clear hg3)
          | (go_at_call 24; refine (exec_1h _ _ _ _ _ (HG3.out.below (by go_grown)) (by (repeat (first | ((with_reducible refine heap_at ?_); (first | omega | (simp <;> omega))) | (with_reducible refine heap_drew ?_) | ((with_reducible refine (Below.heap_alloc _ _ _ ?_).trans ?_); (first | omega | (simp <;> omega))) | ((with_reducible refine (hb3.block _ ?_).trans ?_); (first | omega | (simp <;> omega))))))).mono ?_; rintro e w5 he; obtain ⟨g2, r2, bR, vc, A', c', rfl, hg5, hc5, hb5⟩ := execOk_1 he; clear he; replace hg5 := Lib.hid hg5; replace hc5 := Lib.hid hc5; have hz5 : b0 < w5.heap.size := Nat.lt_of_lt_of_le (by first | omega | (simp <;> omega)) hb5.size; have hs5 : wo.heap.size ≤ w5.heap.size := Nat.le_trans (by first | omega | (simp <;> omega)) hb5.size; have HB5 := Lib.hid (show Below wo.heap.size wo w5 from below_then (by go_grown) (by first | omega | (simp <;> omega)) hb5); (first | (refine have_then (p := w5.heap[w3.heap.size + 1]? = some (.cells #[.slice none 0 0, I 0, I 0] 46)) ?_ (fun hR5 => ?_); ((with_reducible refine (hb5.block _ ?_).trans ?_); (first | omega | (simp <;> omega))); (repeat (first | ((with_reducible refine heap_at ?_); (first | omega | (simp <;> omega))) | (with_reducible refine heap_drew ?_) | ((with_reducible refine (Below.heap_alloc _ _ _ ?_).trans ?_); (first | omega | (simp <;> omega))) | ((with_reducible refine (hb3.block _ ?_).trans ?_); (first | omega | (simp <;> omega))))); obtain ⟨x0, x1, x2, y0, y1, y2⟩ := row_cells hR5; have HR5 := Lib.hid hR5; clear hR5) | (refine have_then (p := w5.heap[w3.heap.size]? = some (.cells #[.slice none 0 0, I 0, I 0] 46)) ?_ (fun hR5 => ?_); ((with_reducible refine (hb5.block _ ?_).trans ?_); (first | omega | (simp <;> omega))); (repeat (first | ((with_reducible refine heap_at ?_); (first | omega | (simp <;> omega))) | (with_reducible refine heap_drew ?_) | ((with_reducible refine (Below.heap_alloc _ _ _ ?_).trans ?_); (first | omega | (simp <;> omega))) | ((with_reducible refine (hb3.block _ ?_).trans ?_); (first | omega | (simp <;> omega))))); obtain ⟨x0, x1, x2, y0, y1, y2⟩ := row_cells hR5; have HR5 := Lib.hid hR5; clear hR5) | (refine have_then (p := w5.heap[wo.heap.size + 1]? = some (.cells #[.slice none 0 0, I 0, I 0] 46)) ?_ (fun hR5 => ?_); ((with_reducible refine (hb5.block _ ?_).trans ?_); (first | omega | (simp <;> omega))); (repeat (first | ((with_reducible refine heap_at ?_); (first | omega | (simp <;> omega))) | (with_reducible refine heap_drew ?_) | ((with_reducible refine (Below.heap_alloc _ _ _ ?_).trans ?_); (first | omega | (simp <;> omega))) | ((with_reducible refine (hb3.block _ ?_).trans ?_); (first | omega | (simp <;> omega))))); obtain ⟨x0, x1, x2, y0, y1, y2⟩ := row_cells hR5; have HR5 := Lib.hid hR5; clear hR5) | (refine have_then (p := w5.heap[wo.heap.size]? = some (.cells #[.slice none 0 0, I 0, I 0] 46)) ?_ (fun hR5 => ?_); ((with_reducible refine (hb5.block _ ?_).trans ?_); (first | omega | (simp <;> omega))); (repeat (first | ((with_reducible refine heap_at ?_); (first | omega | (simp <;> omega))) | (with_reducible refine heap_drew ?_) | ((with_reducible refine (Below.heap_alloc _ _ _ ?_).trans ?_); (first | omega | (simp <;> omega))) | ((with_reducible refine (hb3.block _ ?_).trans ?_); (first | omega | (simp <;> omega))))); obtain ⟨x0, x1, x2, y0, y1, y2⟩ := row_cells hR5; have HR5 := Lib.hid hR5; clear hR5) | skip)))
      all_goals
        go_wp2_with (fail)
        go_meet
        case rel =>
          first
            | (have HR5' := HR5.out; exact ⟨g2, r2, _, bR, vc, A', c', rfl, rfl, Lib.hid (graph_set3 hg5.out HR5.out), Lib.hid (cell_of_heap (set3 _ _ _ _ _ _ HR5.out _ _ _) 0 _ rfl), Lib.hid (cell_of_heap (set3 _ _ _ _ _ _ HR5.out _ _ _) 2 _ rfl), Lib.hid (cell4_set3 hc5.out HR5.out), Lib.hid (HB5.out.grown (set3_grown _ _ _ _ _) hs5 (fun k hk => by injection hk with hk; omega))⟩)
            | exact ⟨g2, r2, w5.heap.size, bR, vc, A', c', rfl, rfl, Lib.hid (hg5.out.below ((Below.refl _ _).alloc (Nat.le_refl _) _)), Lib.hid (cell_of_heap (heap_at rfl) 0 _ rfl), Lib.hid (cell_of_heap (heap_at rfl) 2 _ rfl), Lib.hid (cell_keep ((Below.refl _ _).alloc (Nat.le_refl _) _) hc5.out), Lib.hid (HB5.out.alloc hs5 _)⟩
    case rest =>
      obtain ⟨g2, r2, b5, bR, vs, A', c', rfl, rfl, hg2, h50, h52, hL, hbd⟩ := hcut
      have q1 := cell_keep hbd.out h31.out
      have q2 := cell_keep hbd.out h32.out
      have q3 := h50.out
      have q4 := h52.out
      have q5 := hL.out
      have HG := Lib.hid (hg.out.below hbd.out)
      have HBd := Lib.hid (below_then (below_then HB.out (by omega) hbc.out) (by have := hbc.out.size; omega) hbd.out)
      go_wp2_with (fail)
      refine (gall_c g r [] wc HG.out (by simp)).mono ?_
      rintro e w5 ⟨l5, v5, hl5, rfl, ho5, hb5⟩
      have hl0 : l5.length = 0 := by have := hl5.len; simpa using this
      obtain ⟨A5, c5, rfl, -⟩ := own_arr ho5
      rw [hl0]
      replace q3 := cell_keep hb5 q3
      replace q4 := cell_keep hb5 q4
      replace q5 := cell_keep hb5 q5
      have HG5 := Lib.hid (HG.out.below hb5)
      have HH5 := Lib.hid (hg2.out.below hb5)
      have HB5 := Lib.hid (below_then HBd.out (by have := HBd.out.size; omega) hb5)
      clear q1 q2 ho5 hb5 hl5 hl0
      go_wp2_with (fail)
      refine (gall_c g2 r2 m1 w5 HH5.out (by decide)).mono ?_
      rintro e w6 ⟨l6, v6, hl6, rfl, ho6, hb6⟩
      have hl0 : l6.length = 3 := by have := hl6.len; simpa [m1] using this
      obtain ⟨A6, c6, rfl, -⟩ := own_arr ho6
      rw [hl0]
      have HG6 := Lib.hid (HG5.out.below hb6)
      have HH6 := Lib.hid (HH5.out.below hb6)
      have HB6 := Lib.hid (below_then HB5.out (by have := HB5.out.size; omega) hb6)
      clear q3 q4 q5 ho6 hb6 hl6 hl0
      go_wp2_with (fail)
      refine (peffect_c g r g2 r2 [] m1 w6 HG6.out HH6.out (by simp) (by decide)).mono ?_
      rintro e w7 ⟨l7, v7, hl7, rfl, ho7, hb7⟩
      have hl0 : l7.length = 3 := by
        obtain ⟨la, lb, h1, h2, h3, -⟩ := hl7
        have e1 : la = [] := List.eq_nil_of_length_eq_zero (by have := h1.len; simpa using this)
        have e2 := h2.len
        rw [h3.length_eq, e1]
        simp only [effA, List.filterMap_nil, List.nil_append, effB, mget, List.find?_nil, Option.map_none, Option.getD_none]
        have hft : List.filter (fun _ => decide True) lb = lb := List.filter_eq_self.2 fun _ _ => rfl
        rw [hft]
        simpa [m1] using e2
      obtain ⟨A7, c7, rfl, -⟩ := own_arr ho7
      rw [hl0]
      have HB7 := Lib.hid (below_then HB6.out (by have := HB6.out.size; omega) hb7)
      clear ho7 hb7 hl7 hl0
      go_wp2_with (fail)
      go_returns
      exact ⟨rfl, by have h := HB7.out; rwa [← hb0] at h⟩
end Go.Proofs.YtabdldfigjkfaaaGreatDoor
