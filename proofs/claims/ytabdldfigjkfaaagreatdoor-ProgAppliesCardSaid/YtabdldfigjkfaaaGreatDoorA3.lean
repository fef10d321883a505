import Derived.Test.YtabdldfigjkfaaaGreatDoorA2
namespace Go.Proofs.YtabdldfigjkfaaaGreatDoor
open Go Go.RowKit

/-- The cells ahead of a key, and the others. -/
def tw (l : List Wr) (k : Key) : List Wr := l.takeWhile fun x => x.k.lt k
def putW (l : List Wr) (k : Key) (v : Str) : List Wr :=
  tw l k ++ ((if v = emp then [] else [⟨k, v⟩]) ++ (l.drop (tw l k).length).filter fun x => decide (x.k ≠ k))

theorem tw_of (l : List Wr) (k : Key) (n : Nat) (hn : n ≤ l.length) (h : ∀ j (hj : j < l.length), j < n → l[j].k.lt k = true) (hx : ∀ hn : n < l.length, l[n].k.lt k = false) : tw l k = l.take n := by
  unfold tw
  induction n generalizing l with
  | zero =>
    cases l with
    | nil => rfl
    | cons x l => have := hx (by simp); simp at this; simp [this]
  | succ n ih =>
    cases l with
    | nil => simp at hn
    | cons x l =>
      have h0 := h 0 (by simp) (by omega)
      simp at h0
      simp only [List.takeWhile_cons, h0, if_true, List.take_succ_cons]
      rw [ih l (by simpa using hn) (fun j hj hjn => h (j + 1) (by simpa using hj) (by omega)) (fun hn' => hx (by simpa using hn'))]

/-- What stays of the cells from n to below i. -/
def kept (l : List Wr) (n i : Nat) (k : Key) : List Wr := ((l.take i).drop n).filter fun x => decide (x.k ≠ k)
theorem kept_len (l : List Wr) (n i : Nat) (k : Key) : (kept l n i k).length ≤ l.length := by
  unfold kept
  refine Nat.le_trans (List.length_filter_le _ _) ?_
  simp; omega
theorem kept_eq (l : List Wr) (n i : Nat) (k : Key) (hi : i < l.length) (he : l[i].k = k) : kept l n (i + 1) k = kept l n i k := by
  unfold kept
  rw [List.take_succ_eq_append_getElem hi, List.drop_append, List.filter_append]
  have : List.filter (fun x => decide (x.k ≠ k)) (List.drop (n - (List.take i l).length) [l[i]]) = [] := by
    rw [List.filter_eq_nil_iff]
    intro x hx
    have := List.mem_of_mem_drop hx
    simp at this; subst this; simp [he]
  rw [this, List.append_nil]
theorem kept_ne (l : List Wr) (n i : Nat) (k : Key) (hi : i < l.length) (hn : n ≤ i) (he : l[i].k ≠ k) : kept l n (i + 1) k = kept l n i k ++ [l[i]] := by
  unfold kept
  rw [List.take_succ_eq_append_getElem hi, List.drop_append, List.filter_append]
  have : n - (List.take i l).length = 0 := by simp; omega
  rw [this]; simp [he]

theorem wr_one (x : Wr) : ∀ y ∈ x.cs, y.oneCell' = true := by
  intro y hy; simp [Wr.cs] at hy; rcases hy with rfl | rfl | rfl | rfl <;> rfl

set_option maxRecDepth 20000 in
set_option maxHeartbeats 1000000 in
theorem put14_c (l : List Wr) (A : Option Addr) (c : Nat) (k : Key) (v : Str) (w : World) (hA : Arr w A (l.flatMap Wr.cs)) (hl : l.length ≤ 1099511627776) :
    Calls Tryz.prog 67 #[.slice A l.length c, k.val, .string v] w fun e w' => ∃ s, e = .returned s ∧ w'.ownsRow w.heap.size 100 4 s (putW l k v).length ((putW l k v).flatMap Wr.cs) ∧ Below w.heap.size w w' := by
  have HA := Lib.hid hA; clear hA
  go_enter Tryz.func67, Tryz.ntmps67
  go_upto_block 0 with (fail)
  go_cut [7, 8] (fun s7 s8 w' => ∃ n : Nat, n ≤ l.length ∧ s8 = .int .i64 n ∧ tw l k = l.take n ∧ w'.ownsRow (w.heap.size + 1) 100 4 s7 n ((l.take n).flatMap Wr.cs) ∧ Below (w.heap.size + 1) (w.alloc (Obj.cells #[I k.kind, I k.a, I k.b] 76)) w')
  case first =>
    go_wp2_with (fail)
    go_loopw [7, 8] (fun s7 s8 w' => ∃ n : Nat, n ≤ l.length ∧ s8 = .int .i64 n ∧ Hid (∀ j (hj : j < l.length), j < n → l[j].k.lt k = true) ∧ w'.ownsRow (w.heap.size + 1) 100 4 s7 n ((l.take n).flatMap Wr.cs) ∧ Below (w.heap.size + 1) (w.alloc (Obj.cells #[I k.kind, I k.a, I k.b] 76)) w') (fun _ i _ => l.length - (intOf i).toNat)
    case atStart => exact ⟨0, Nat.zero_le _, rfl, fun j hj h => by omega, World.ownsRow_nil _ _ _ _, Below.refl _ _⟩
    case round =>
      obtain ⟨n, hn, rfl, hlt', hown, hb⟩ := hrel
      have c0 : wr.cell? ⟨w.heap.size, 0, none⟩ = some (I k.kind) := (hb.cell (by simp)).trans (by simp)
      have c1 : wr.cell? ⟨w.heap.size, 1, none⟩ = some (I k.a) := (hb.cell (by simp)).trans (by simp)
      have c2 : wr.cell? ⟨w.heap.size, 2, none⟩ = some (I k.b) := (hb.cell (by simp)).trans (by simp)
      have HB := Lib.hid hb; clear hb
      have HO := Lib.hid hown; clear hown
      by_cases hlt : n < l.length
      · obtain ⟨b, o, rfl, hbz, d0, d1, d2, d3⟩ := HA.out.wr n hlt
        have HBo : ∀ j, wr.cell? ⟨b, j, none⟩ = w.cell? ⟨b, j, none⟩ := fun j => (HB.out.cell (by simp; omega)).trans (World.cell?_alloc_lt _ _ _ hbz)
        rw [← HBo] at d0 d1 d2 d3
        clear HBo
        go_wp2_with (fail)
        go_still_tail 11, (by kernel_rfl)
        change wpList _ _ _ _ _ wr.drew
        have hz : w.heap.size + 1 ≤ wr.heap.size := by simpa using HB.out.size
        cases hlk : l[n].k.lt k with
        | true =>
          have HL := Lib.hid hlk; clear hlk
          have hc := less11_c l[n].k k wr.drew
          rw [HL.out] at hc
          go_wp2_with (first
            | (go_at_call 120; refine hc.mono ?_; rintro e w1 ⟨rfl, hb1⟩; replace d0 := cell_keep hb1 d0; replace d1 := cell_keep hb1 d1; replace d2 := cell_keep hb1 d2; replace d3 := cell_keep hb1 d3; have hz1 : w.heap.size + 1 ≤ w1.heap.size := Nat.le_trans hz hb1.size)
            | (at_builtin; refine app1 (w.heap.size + 1) rfl _ _ 28 100 _ 4 40 rfl Tryz.underlying28 info100 rfl (by decide) (by decide) (own_below (World.ownsRow.drew HO.out) hb1) [I l[n].k.kind, I l[n].k.a, I l[n].k.b, .string l[n].v] rfl rfl (wr_one l[n]) rfl hz1 (by omega) ?_; intro v1 w2 hown2 hb2 _; have HO2 := Lib.hid hown2; clear hown2; have HB2 := Lib.hid hb2; clear hb2))
          go_roundw
          case rel => exact ⟨n + 1, by omega, by go_num, fun j hj h => (Nat.lt_succ_iff_lt_or_eq.1 h).elim (fun h => hlt'.out j hj h) (fun h => by subst h; exact HL.out), own_cast HO2.out rfl (flat_take Wr.cs l n hlt), ((HB.out.drew).trans (hb1.mono hz)).trans HB2.out⟩
          case measure => simp [intOf]; omega
        | false =>
          have HL := Lib.hid hlk; clear hlk
          have hc := less11_c l[n].k k wr.drew
          rw [HL.out] at hc
          go_wp2_with (first
            | (go_at_call 120; refine hc.mono ?_; rintro e w1 ⟨rfl, hb1⟩))
          go_meet
          case rel => exact ⟨n, hn, rfl, tw_of l k n hn hlt'.out (fun _ => HL.out), own_below (World.ownsRow.drew HO.out) hb1, (HB.out.drew).trans (hb1.mono hz)⟩
      · go_wp2_with (fail)
        go_quiet (fail)
        go_wp2_with (fail)
        go_meet
        case rel => exact ⟨n, hn, rfl, tw_of l k n hn hlt'.out (fun h => absurd h hlt), HO.out, HB.out.drewN _⟩
  case rest =>
    obtain ⟨n, hn, rfl, htw, hown, hb⟩ := hcut
    have c0 : wc.cell? ⟨w.heap.size, 0, none⟩ = some (I k.kind) := (hb.cell (by simp)).trans (by simp)
    have c1 : wc.cell? ⟨w.heap.size, 1, none⟩ = some (I k.a) := (hb.cell (by simp)).trans (by simp)
    have c2 : wc.cell? ⟨w.heap.size, 2, none⟩ = some (I k.b) := (hb.cell (by simp)).trans (by simp)
    have hz : w.heap.size + 1 ≤ wc.heap.size := by simpa using hb.size
    have HB := Lib.hid hb; clear hb
    have HO := Lib.hid hown; clear hown
    have HT := Lib.hid htw; clear htw
    have hcase : v = emp ∨ v ≠ emp := Decidable.em _
    have ⟨mid, hmid⟩ : ∃ mid : List Wr, mid = (if v = emp then [] else [(⟨k, v⟩ : Wr)]) := ⟨_, rfl⟩
    have hml : mid.length ≤ 1 := by rw [hmid]; split <;> simp
    have HM := Lib.hid hmid; clear hmid
    go_upto_if 33 with (fail)
    go_cut [7] (fun s7 w' => w'.ownsRow (w.heap.size + 1) 100 4 s7 (l.take n ++ mid).length ((l.take n ++ mid).flatMap Wr.cs) ∧ Below (w.heap.size + 1) (w.alloc (Obj.cells #[I k.kind, I k.a, I k.b] 76)) w')
    case first =>
      rcases hcase with hv | hv
      · have hm : mid = [] := by rw [HM.out, if_pos hv]
        rw [(isEmpty_t hv).2.2]
        clear hv
        go_wp2_with (fail)
        go_meet
        case rel => exact ⟨own_cast HO.out (by subst hm; simp; omega) (by subst hm; simp), HB.out⟩
      · have hm : mid = [⟨k, v⟩] := by rw [HM.out, if_neg hv]
        rw [(isEmpty_f hv).2]
        clear hv
        have hm := Lib.hid hm
        go_wp2_with (at_builtin; refine app1 (w.heap.size + 1) rfl _ _ 28 100 _ 4 40 rfl Tryz.underlying28 info100 rfl (by decide) (by decide) HO.out [I k.kind, I k.a, I k.b, .string v] rfl rfl (wr_one ⟨k, v⟩) rfl hz (by omega) ?_; intro v1 w2 hown2 hb2 _; have HO2 := Lib.hid hown2; clear hown2; have HB2 := Lib.hid hb2; clear hb2)
        go_meet
        case rel => exact ⟨own_cast HO2.out (by rw [hm.out]; simp; omega) (by rw [hm.out]; exact flat_snoc Wr.cs _ ⟨k, v⟩), HB.out.trans HB2.out⟩
    case rest =>
      obtain ⟨hown, hb⟩ := hcut
      clear c0 c1 c2 HO
      go_wp2_with (fail)
      go_loopw [7, 9] (fun s7 s9 w' => ∃ i : Nat, n ≤ i ∧ i ≤ l.length ∧ s9 = .int .i64 i ∧ w'.ownsRow (w.heap.size + 1) 100 4 s7 (l.take n ++ mid ++ kept l n i k).length ((l.take n ++ mid ++ kept l n i k).flatMap Wr.cs) ∧ Below (w.heap.size + 1) (w.alloc (Obj.cells #[I k.kind, I k.a, I k.b] 76)) w') (fun _ i _ => l.length - (intOf i).toNat)
      case atStart => exact ⟨n, Nat.le_refl _, hn, rfl, own_cast hown (by simp [kept]) (by simp [kept]), hb⟩
      case round =>
        obtain ⟨i, hni, hi, rfl, hown, hb⟩ := hrel
        have c0 : wr.cell? ⟨w.heap.size, 0, none⟩ = some (I k.kind) := (hb.cell (by simp)).trans (by simp)
        have c1 : wr.cell? ⟨w.heap.size, 1, none⟩ = some (I k.a) := (hb.cell (by simp)).trans (by simp)
        have c2 : wr.cell? ⟨w.heap.size, 2, none⟩ = some (I k.b) := (hb.cell (by simp)).trans (by simp)
        have hz : w.heap.size + 1 ≤ wr.heap.size := by simpa using hb.size
        have HB := Lib.hid hb; clear hb
        have HO := Lib.hid hown; clear hown
        have hkl := kept_len l n i k
        by_cases hlt : i < l.length
        · obtain ⟨b, o, rfl, hbz, d0, d1, d2, d3⟩ := HA.out.wr i hlt
          have HBo : ∀ j, wr.cell? ⟨b, j, none⟩ = w.cell? ⟨b, j, none⟩ := fun j => (HB.out.cell (by simp; omega)).trans (World.cell?_alloc_lt _ _ _ hbz)
          rw [← HBo] at d0 d1 d2 d3
          clear HBo
          have hcut : (l[i].k = k) ∨ (l[i].k ≠ k) := Decidable.em _
          rcases hcut with he | he
          · have hk : keyEq l[i].k.kind l[i].k.a l[i].k.b k.kind k.a k.b = true := by rw [keyEq_iff]; exact decide_eq_true he
            have hs := Lib.hid (kept_eq l n i k hlt he); clear he
            go_wp2_with (fail)
            go_quiet (fail)
            go_wp2_with (fail)
            go_roundw
            case rel => exact ⟨i + 1, by omega, by omega, by go_num, by rw [hs.out]; exact HO.out, HB.out.drewN _⟩
            case measure => simp [intOf]; omega
          · have hk : keyEq l[i].k.kind l[i].k.a l[i].k.b k.kind k.a k.b = false := by rw [keyEq_iff]; exact decide_eq_false he
            have hs := Lib.hid (kept_ne l n i k hlt hni he); clear he
            have hln : (l.take n ++ mid ++ kept l n i k).length ≤ 2 * l.length + 1 := by simp; omega
            go_wp2_with (fail)
            go_quiet (fail)
            go_wp2_with (at_builtin; refine app1 (w.heap.size + 1) rfl _ _ 28 100 _ 4 40 rfl Tryz.underlying28 info100 rfl (by decide) (by decide) (own_drewN HO.out _) [I l[i].k.kind, I l[i].k.a, I l[i].k.b, .string l[i].v] rfl rfl (wr_one l[i]) rfl hz (by omega) ?_; intro v1 w2 hown2 hb2 _; have HO2 := Lib.hid hown2; clear hown2; have HB2 := Lib.hid hb2; clear hb2)
            go_roundw
            case rel => exact ⟨i + 1, by omega, by omega, by go_num, own_cast HO2.out (by rw [hs.out]; simp; omega) (by rw [hs.out, ← List.append_assoc]; exact flat_snoc Wr.cs _ l[i]), (HB.out.drewN nq).trans HB2.out⟩
            case measure => simp [intOf]; omega
        · obtain rfl : i = l.length := by omega
          have hp : putW l k v = l.take n ++ mid ++ kept l n l.length k := by
            unfold putW; rw [HT.out, ← HM.out, List.append_assoc, List.length_take, Nat.min_eq_left hn]; simp [kept]
          have HP := Lib.hid hp; clear hp
          go_wp2
          go_ret
          exact ⟨_, rfl, by rw [HP.out]; exact (own_mono HO.out (by omega)), ((Below.refl _ _).alloc (Nat.le_refl _) _).trans (HB.out.mono (by simp))⟩
end Go.Proofs.YtabdldfigjkfaaaGreatDoor
