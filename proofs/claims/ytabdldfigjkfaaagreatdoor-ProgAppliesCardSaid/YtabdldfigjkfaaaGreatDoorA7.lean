import Derived.Test.YtabdldfigjkfaaaGreatDoorA6
namespace Go.Proofs.YtabdldfigjkfaaaGreatDoor
open Go Go.RowKit

def gput (m : KM) (k : Key) (v : Str) : KM := if v = emp then mdel m k else mput m k v
theorem MapE.drewN {w : World} {r : Nat} {m : KM} (h : MapE w r m) (n : Nat) : MapE (w.drewN n) r m := h
theorem MapE.drew {w : World} {r : Nat} {m : KM} (h : MapE w r m) : MapE w.drew r m := h
def GraphAt (w : World) (g r : Nat) (m : KM) : Prop := w.cell? ⟨g, 0, none⟩ = some (.map (some r)) ∧ MapE w r m
abbrev ptr (g : Nat) : Value := .pointer (some ⟨g, 0, none⟩)
theorem GraphAt.below {w w1 : World} {g r : Nat} {m : KM} (h : GraphAt w g r m) (hb : Below w.heap.size w w1) : GraphAt w1 g r m := ⟨cell_keep hb h.1, h.2.below hb⟩
theorem GraphAt.lt {w : World} {g r : Nat} {m : KM} (h : GraphAt w g r m) : g < w.heap.size := World.block_lt_of_cell? w _ h.1
theorem GraphAt.ne {w : World} {g r : Nat} {m : KM} (h : GraphAt w g r m) : g ≠ r := by
  rintro rfl
  obtain ⟨h1, es, c, h2, _⟩ := h
  simp [World.cell?, h2] at h1
theorem grown_below {w w1 : World} (h : Below w.heap.size w w1) (row : Option Nat) : w.grownBy w1 row := ⟨h.os, h.tape, h.output, h.size, fun i hi _ => h.block i hi⟩
theorem GraphAt.put {w w1 : World} {g r : Nat} {m m' : KM} (h : GraphAt w g r m) (hg : w.grownBy w1 (some r)) (h1 : MapE w1 r m') : GraphAt w1 g r m' :=
  ⟨hg.cell h.1 (by simp [h.ne]), h1⟩

set_option maxRecDepth 20000 in
set_option maxHeartbeats 400000 in
theorem gget_c (g r : Nat) (m : KM) (k : Key) (w : World) (h : GraphAt w g r m) :
    Calls Tryz.prog 65 #[ptr g, k.val] w fun e w' => e = .returned (.string (mget m k)) ∧ Below w.heap.size w w' := by
  obtain ⟨hc, hm⟩ := h
  have hlt := World.block_lt_of_cell? w _ hc
  have hr := hm.lt
  have hl : ∀ n, (Instr.lookup 96 (.map (some r)) (.agg #[I k.kind, I k.a, I k.b]) false).run Tryz.prog ((w.alloc (.cells #[I k.kind, I k.a, I k.b] 76)).drewN n) = .ok (.string (mget m k)) ((w.alloc (.cells #[I k.kind, I k.a, I k.b] 76)).drewN n) :=
    fun n => run_lookup76 ((hm.below ((Below.refl _ _).alloc (Nat.le_refl _) (.cells #[I k.kind, I k.a, I k.b] 76))).drewN n) k
  clear hm
  go_enter Tryz.func65, Tryz.ntmps65
  go_wp2
  go_quiet (fail)
  go_wp2
  go_ret
  exact ⟨rfl, ((Below.refl _ _).alloc (Nat.le_refl _) _).drewN _⟩
theorem gget_nil (k : Key) (w : World) :
    Calls Tryz.prog 65 #[.pointer none, k.val] w fun e w' => e = .returned (.string emp) ∧ Below w.heap.size w w' := by
  go_enter Tryz.func65, Tryz.ntmps65
  go_wp2
  go_ret
  exact ⟨rfl, (Below.refl _ _).alloc (Nat.le_refl _) _⟩

set_option maxRecDepth 20000 in
set_option maxHeartbeats 400000 in
theorem gput_c (g r : Nat) (m : KM) (k : Key) (v : Str) (w : World) (h : GraphAt w g r m) :
    Calls Tryz.prog 54 #[ptr g, k.val, .string v] w fun e w' => e = .returned (.tuple #[]) ∧ MapE w' r (gput m k v) ∧ w.grownBy w' (some r) := by
  obtain ⟨hc, hm⟩ := h
  have hlt := World.block_lt_of_cell? w _ hc
  have hr := hm.lt
  have hB : Below w.heap.size w (w.alloc (.cells #[I k.kind, I k.a, I k.b] 76)) := (Below.refl _ _).alloc (Nat.le_refl _) _
  have hm1 : MapE (w.alloc (.cells #[I k.kind, I k.a, I k.b] 76)) r m := hm.below hB
  have b0 : (w.alloc (.cells #[I k.kind, I k.a, I k.b] 76)).cell? ⟨w.heap.size, 0, none⟩ = some (I k.kind) := by simp
  have b1 : (w.alloc (.cells #[I k.kind, I k.a, I k.b] 76)).cell? ⟨w.heap.size, 1, none⟩ = some (I k.a) := by simp
  have b2 : (w.alloc (.cells #[I k.kind, I k.a, I k.b] 76)).cell? ⟨w.heap.size, 2, none⟩ = some (I k.b) := by simp
  have hc' := cell_keep hB hc
  have HM := Lib.hid hm1
  have HB := Lib.hid hB
  clear hm hm1 hB hc
  by_cases hv : v = emp
  · have hp : gput m k v = mdel m k := by rw [gput, if_pos hv]
    have HP := Lib.hid hp; clear hp
    obtain ⟨e1, e2, e3⟩ := isEmpty_t hv
    clear hv
    go_enter Tryz.func54, Tryz.ntmps54
    go_wp2
    generalize w.alloc (.cells #[I k.kind, I k.a, I k.b] 76) = W at *
    go_still_tail 5, (by kernel_rfl)
    change wpList _ _ _ _ _ W.drew
    refine wp_delete76 (MapE.drew HM.out) rfl _ _ rfl k rfl rfl ?_
    intro w1 h1 hg1
    have H1 := Lib.hid h1
    have HG := Lib.hid hg1
    clear h1 hg1
    go_wp2
    go_end0
    exact ⟨rfl, by rw [HP.out]; exact H1.out, World.grownBy.trans (grown_below (HB.out.drew) _) HG.out⟩
  · have hp : gput m k v = mput m k v := by rw [gput, if_neg hv]
    have HP := Lib.hid hp; clear hp
    obtain ⟨e1, e2⟩ := isEmpty_f hv
    clear hv
    go_enter Tryz.func54, Tryz.ntmps54
    go_wp2
    generalize w.alloc (.cells #[I k.kind, I k.a, I k.b] 76) = W at *
    go_still_tail 6, (by kernel_rfl)
    change wpList _ _ _ _ _ W.drew
    refine wp_update76 (MapE.drew HM.out) rfl _ _ _ rfl k v rfl rfl rfl ?_
    intro w1 h1 hg1
    have H1 := Lib.hid h1
    have HG := Lib.hid hg1
    clear h1 hg1
    go_wp2
    go_end0
    exact ⟨rfl, by rw [HP.out]; exact H1.out, World.grownBy.trans (grown_below (HB.out.drew) _) HG.out⟩

def applyM (m : KM) (l : List Wr) : KM := l.foldl (fun m x => gput m x.k x.v) m
theorem applyM_take (m : KM) (l : List Wr) (n : Nat) (h : n < l.length) : applyM m (l.take (n + 1)) = gput (applyM m (l.take n)) l[n].k l[n].v := by
  unfold applyM; rw [List.take_succ_eq_append_getElem h, List.foldl_append]; rfl
theorem MapE.made (w : World) : MapE (w.alloc (.map #[] 0)) w.heap.size [] := ⟨#[], 0, heap_alloc_new w _, ⟨rfl, by simp, by simp, by simp⟩⟩
theorem GraphAt.made (w : World) : GraphAt ((w.alloc (.map #[] 0)).alloc (.cells #[.map (some w.heap.size)] 98)) (w.heap.size + 1) w.heap.size [] := by
  refine ⟨?_, (MapE.made w).below ((Below.refl _ _).alloc (Nat.le_refl _) _)⟩
  simp

set_option maxRecDepth 20000 in
set_option maxHeartbeats 1000000 in
theorem gnew_c (l : List Wr) (A : Option Addr) (c : Nat) (w : World) (hA : Arr w A (l.flatMap Wr.cs)) (hl : l.length ≤ 1099511627776) :
    Calls Tryz.prog 16 #[.slice A l.length c] w fun e w' => ∃ g r, e = .returned (ptr g) ∧ GraphAt w' g r (applyM [] l) ∧ w.heap.size ≤ g ∧ w.heap.size ≤ r ∧ Below w.heap.size w w' := by
  have HA := Lib.hid hA; clear hA
  have hmm := @run_makeMap Tryz.prog
  go_enter Tryz.func16, Tryz.ntmps16
  go_wp2
  go_loopw [11] (fun i wr => ∃ n : Nat, n ≤ l.length ∧ i = .int .i64 n ∧ GraphAt wr (w.heap.size + 1) w.heap.size (applyM [] (l.take n)) ∧ Below w.heap.size w wr) (fun i _ => l.length - (intOf i).toNat)
  case atStart => exact ⟨0, Nat.zero_le _, rfl, GraphAt.made w, ((Below.refl _ _).alloc (Nat.le_refl _) _).alloc (by simp) _⟩
  case round =>
    clear hmm
    obtain ⟨n, hn, rfl, hgr, hb⟩ := hrel
    have HBel := Lib.hid hb; clear hb
    by_cases hlt : n < l.length
    · obtain ⟨b, o, rfl, hbz, d0, d1, d2, d3⟩ := HA.out.wr n hlt
      replace d0 := cell_keep HBel.out d0
      replace d1 := cell_keep HBel.out d1
      replace d2 := cell_keep HBel.out d2
      replace d3 := cell_keep HBel.out d3
      have hc := gput_c (w.heap.size + 1) w.heap.size (applyM [] (l.take n)) l[n].k l[n].v (wr.alloc (.cells #[I l[n].k.kind, I l[n].k.a, I l[n].k.b, .string l[n].v] 100)) (hgr.below ((Below.refl _ _).alloc (Nat.le_refl _) _))
      have HS := Lib.hid (applyM_take [] l n hlt)
      have HG := Lib.hid hgr
      clear hgr
      go_wp2_with (go_at_call 54; refine hc.mono ?_; rintro e w1 ⟨rfl, h1, hg1⟩; have H1 := Lib.hid h1; have HG1 := Lib.hid hg1; clear h1 hg1)
      go_roundw
      case rel =>
        have hB1 : Below w.heap.size w (wr.alloc (.cells #[I l[n].k.kind, I l[n].k.a, I l[n].k.b, .string l[n].v] 100)) := HBel.out.alloc HBel.out.size _
        refine ⟨n + 1, by omega, by go_num, ?_, hB1.grown HG1.out hB1.size (fun k hk => by cases hk; exact Nat.le_refl _)⟩
        rw [HS.out]
        exact (HG.out.below ((Below.refl _ _).alloc (Nat.le_refl _) _)).put HG1.out H1.out
      case measure => simp [intOf]; omega
    · obtain rfl : n = l.length := by omega
      rw [List.take_length] at hgr
      have HG := Lib.hid hgr
      clear hgr
      go_wp2
      go_ret
      exact ⟨_, _, rfl, HG.out, by omega, Nat.le_refl _, HBel.out⟩
end Go.Proofs.YtabdldfigjkfaaaGreatDoor
