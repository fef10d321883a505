import Derived.Test.YtabdldfigjkfaaaGreatDoorG2
namespace Go.Proofs.YtabdldfigjkfaaaGreatDoor
open Go Go.RowKit

/-! prog.Exec. -/
theorem results_tmp_reply {fn : Func} {p q : Tmp} (h : fn.results = #[.tmp p, .cell q 46]) (tmps : Array Value) (w : World) (b : Nat) (v0 v1 v2 : Value) (hp : tmps.getD q undef = .pointer (some ⟨b, 0, none⟩)) (hg : w.heap[b]? = some (.cells #[v0, v1, v2] 46)) :
    (results fn tmps).run Tryz.prog w = .ok (.tuple #[tmps.getD p undef, .agg #[v0, v1, v2]]) w := by
  have hp' : tmps[q]?.getD undef = .pointer (some ⟨b, 0, none⟩) := by simpa using hp
  have := run_loadVar_row (P := Tryz.prog) w b 46 46 #[v0, v1, v2] (0, 0) _ hg Tryz.underlying46 rfl (by kernel_rfl)
  simp [results, h, hp', asAddr, this]
/-- Behind prog.Exec with an error: the same graph. -/
def ExecBad (w : World) (g : Nat) (a er : Int) (e : Ending) (w' : World) : Prop :=
  ∃ A c, e = .returned (.tuple #[ptr g, .agg #[.slice A 0 c, I a, I er]]) ∧ Below w.heap.size w w'
/-- Behind prog.Exec: another graph. -/
def ExecOk (w : World) (rl : List Res) (mf : KM) (e : Ending) (w' : World) : Prop :=
  ∃ g r v vs, e = .returned (.tuple #[ptr g, .agg #[v, I 0, I 0]]) ∧ GraphAt w' g r mf ∧ w.heap.size ≤ g ∧ w.heap.size ≤ r ∧ w'.ownsRow w.heap.size 34 4 v rl.length (resCs vs rl) ∧ ResVs w' w.heap.size (fun b => v.ownBlock = some b) vs rl ∧ Below w.heap.size w w'
set_option maxRecDepth 20000 in
set_option maxHeartbeats 1000000 in
theorem exec_arg (p : List Opr) (A : Option Addr) (c g : Nat) (room : Int) (w : World) (hA : Arr w A (p.flatMap Opr.cs)) (hl : p.length ≤ 100000) (hc : (pchk p).2 ≠ 0) :
    Calls Tryz.prog 24 #[ptr g, I room, .slice A p.length c] w fun e w' => ExecBad w g (pchk p).1 (pchk p).2 e w' := by
  have hB : Below w.heap.size w (w.alloc (.cells #[.slice none 0 0, I 0, I 0] 46)) := (Below.refl _ _).alloc (Nat.le_refl _) _
  have hT7 : (w.alloc (.cells #[.slice none 0 0, I 0, I 0] 46)).heap[w.heap.size]? = some (.cells #[.slice none 0 0, I 0, I 0] 46) := heap_alloc_new _ _
  have hpc := pcheck_c p A c _ (hA.below hB) (by omega)
  have hne : ((pchk p).2 != 0) = true := by simpa using hc
  have HB := Lib.hid hB
  have HT7 := Lib.hid hT7
  have HPC := Lib.hid hpc
  generalize pchk p = pc at *
  obtain ⟨pa, pe⟩ := pc
  simp only at hne hc HPC
  clear hA hB hT7 hpc hc
  go_enter Tryz.func24, Tryz.ntmps24
  go_wp2_with (fail)
  refine HPC.out.mono ?_
  rintro e w1 ⟨rfl, hb1⟩
  have h7 := (hb1.block w.heap.size (by simp)).trans HT7.out
  have H7 := Lib.hid h7
  obtain ⟨y0, y1, y2, f0, f1, f2⟩ := row_cells h7
  have HB1 := Lib.hid hb1
  have hz1 : w.heap.size < w1.heap.size := (Array.getElem?_eq_some_iff.1 h7).1
  clear h7 hb1
  go_wp2_with (fail)
  try simp only [Exit.inBlock, Exit.then]
  refine bodyPost_ret (results_tmp_reply rfl _ _ w.heap.size _ _ _ rfl (set3 w1 w.heap.size _ _ _ _ H7.out _ _ _)) rfl ?_
  exact ⟨none, 0, rfl, (below_then HB.out (by simp) HB1.out).grown (set3_grown w1 w.heap.size _ _ _) (by omega) (fun k hk => by injection hk with hk; omega)⟩
set_option maxRecDepth 20000 in
set_option maxHeartbeats 1000000 in
theorem exec_c (p : List Opr) (A : Option Addr) (c g r : Nat) (room : Int) (m : KM) (ms : Nat → KM) (rs : Nat → Res) (ers : Nat → Int) (n : Nat) (a er : Int) (rl : List Res) (mf : KM) (h0 : ms 0 = m) (hn : n ≤ p.length) (hok : ∀ i, i < n → ers i = 0)
    (hfin : (n = p.length ∧ a = 0 ∧ er = 0 ∧ rl = (List.range n).map rs ∧ mf = ms n) ∨ (n < p.length ∧ ers n ≠ 0 ∧ a = n ∧ er = ers n ∧ rl = [] ∧ mf = ms (n + 1)))
    (w : World) (hG : GraphAt w g r m) (hA : Arr w A (p.flatMap Opr.cs)) (hl : p.length ≤ 100000) (hc : pchk p = (0, 0)) (hD : ∀ g r i (hi : i < p.length), i ≤ n → DoIs p[i] g r room (ms i) (ms (i + 1)) (ers i) (rs i)) :
    Calls Tryz.prog 24 #[ptr g, I room, .slice A p.length c] w fun e w' => if er = 0 then ExecOk w rl mf e w' else ExecBad w g a er e w' := by
  have hB : Below w.heap.size w (w.alloc (.cells #[.slice none 0 0, I 0, I 0] 46)) := (Below.refl _ _).alloc (Nat.le_refl _) _
  have hT7 : (w.alloc (.cells #[.slice none 0 0, I 0, I 0] 46)).heap[w.heap.size]? = some (.cells #[.slice none 0 0, I 0, I 0] 46) := heap_alloc_new _ _
  have hpc := pcheck_c p A c _ (hA.below hB) (by omega)
  rw [hc] at hpc
  have HR := Lib.hid (fun g' r' W (hG : GraphAt W g' r' (ms 0)) (hA : Arr W A (p.flatMap Opr.cs)) => run_c p A c g' r' room ms rs ers n a er rl mf hn hok hfin W hG hA hl (hD g' r'))
  have HB := Lib.hid hB
  have HT7 := Lib.hid hT7
  have HPC := Lib.hid hpc
  have HG := Lib.hid (hG.below hB)
  have HA := Lib.hid (hA.below hB)
  have H0 := Lib.hid h0
  have ha0 : er = 0 → a = 0 := fun e => by
    rcases hfin with h | h
    · exact h.2.1
    · exact absurd (h.2.2.2.1 ▸ e) h.2.1
  have hl0 : er ≠ 0 → rl = [] := fun e => by
    rcases hfin with h | h
    · exact absurd h.2.2.1 e
    · exact h.2.2.2.2.1
  have HA0 := Lib.hid ha0
  have HL0 := Lib.hid hl0
  clear hA hB hT7 hpc hc hD hfin hok hG h0 ha0 hl0
  go_enter Tryz.func24, Tryz.ntmps24
  go_wp2_with (fail)
  refine HPC.out.mono ?_
  rintro e w1 ⟨rfl, hb1⟩
  have HB1 := Lib.hid hb1
  have HG1 := Lib.hid (HG.out.below hb1)
  have HA1 := Lib.hid (HA.out.below hb1)
  clear hb1
  go_wp2_with (fail)
  refine (gcopy_c g r m w1 HG1.out).mono ?_
  rintro e w2 ⟨g2, r2, rfl, hg2, hs1, hs2, hb2⟩
  have HB2 := Lib.hid hb2
  have HG2 := Lib.hid (show GraphAt w2 g2 r2 (ms 0) by rw [H0.out]; exact hg2)
  have HA2 := Lib.hid (HA1.out.below hb2)
  clear hg2 hb2
  go_wp2_with (fail)
  refine (HR.out g2 r2 w2 HG2.out HA2.out).mono ?_
  rintro e w3 ⟨v, vs, rfl, ho3, hv3, hm3, hg3⟩
  have hw1 : w.heap.size < w1.heap.size := by have := HB1.out.size; simp at this; omega
  have h7 : w3.heap[w.heap.size]? = some (.cells #[.slice none 0 0, I 0, I 0] 46) :=
    (hg3.block _ (Nat.lt_of_lt_of_le hw1 HB2.out.size) (by simp; omega)).trans ((HB2.out.block _ hw1).trans ((HB1.out.block _ (by simp)).trans HT7.out))
  have HB3 := Lib.hid ((below_then (below_then HB.out HB.out.size HB1.out) (by omega) HB2.out).grown hg3 (by have := HB2.out.size; omega) (fun k hk => by injection hk with hk; omega))
  have hz3 : w2.heap.size ≤ w3.heap.size := hg3.size
  have hz2 := HB2.out.size
  have HG3 := Lib.hid (HG2.out.put hg3 hm3)
  obtain ⟨VA, VC, hvv, -⟩ := own_arr ho3
  have hb3 : Below w3.heap.size w3 (w3.alloc (.cells #[v, I a, I er] 46)) := (Below.refl _ _).alloc (Nat.le_refl _) _
  have h7' := (hb3.block _ (by omega : w.heap.size < w3.heap.size)).trans h7
  have h8 : (w3.alloc (.cells #[v, I a, I er] 46)).heap[w3.heap.size]? = some (.cells #[v, I a, I er] 46) := heap_alloc_new _ _
  have HB4 := Lib.hid hb3
  have H7 := Lib.hid h7'
  have HO := Lib.hid (own_below ho3 hb3)
  have HV := Lib.hid (hv3.kept fun b _ _ hlt => hb3.block b hlt)
  obtain ⟨y0, y1, y2, f0, f1, f2⟩ := row_cells h7'
  obtain ⟨x0, x1, x2, -, -, -⟩ := row_cells h8
  subst hvv
  clear ho3 hv3 hm3 hg3 h7 hb3 h7' h8
  by_cases her : er = 0
  · obtain ⟨rfl, rfl⟩ : er = 0 ∧ a = 0 := ⟨her, HA0.out her⟩
    go_wp2_with (fail)
    generalize w3.alloc (.cells #[.slice VA rl.length VC, I 0, I 0] 46) = w4 at *
    go_still_tail 3, (by kernel_rfl)
    change wpList _ _ _ _ _ w4.drew
    go_wp2_with (fail)
    refine bodyPost_ret (results_tmp_reply rfl _ _ w.heap.size _ _ _ rfl (set3 w4.drew w.heap.size _ _ _ _ H7.out _ _ _)) rfl ?_
    have hsg : w4.grownBy (((w4.setCell ⟨w.heap.size, 0, none⟩ (.slice VA rl.length VC)).setCell ⟨w.heap.size, 1, none⟩ (I 0)).setCell ⟨w.heap.size, 2, none⟩ (I 0)).drew (some w.heap.size) := World.grownBy.trans (set3_grown w4 w.heap.size (.slice VA rl.length VC) (I 0) (I 0)) (grown_drew _ _)
    have hb4 : w.heap.size ≤ w4.heap.size := by have := HB4.out.size; omega
    have hrow : ∀ q, (Value.slice VA rl.length VC).ownBlock = some q → w2.heap.size ≤ q := fun q hq => own_base HO.out q hq
    have hg4 := HG3.out.below HB4.out
    refine ⟨g2, r2, _, vs, rfl, ⟨hsg.cell hg4.1 (by simp; omega), hg4.2.keep (hsg.block r2 hg4.2.lt (by simp; omega))⟩, by omega, by omega, own_mono (HO.out.kept hsg (.inr fun e => by have := hrow _ e; omega)) (by omega), ?_, ?_⟩
    · refine ⟨HV.out.1, fun i h h' => ?_⟩
      obtain ⟨A2, c2, g1, g2, g3⟩ := HV.out.2 i h h'
      refine ⟨A2, c2, g1, fun hne => ?_, fun b o hA hn => ⟨by have := (g3 b o hA hn).1; omega, (g3 b o hA hn).2⟩⟩
      obtain ⟨b, o, rfl, hc⟩ := g2 hne
      have hb := (g3 b o rfl (fun e => hne (by rw [e]; rfl))).1
      exact ⟨b, o, rfl, fun j hj => hsg.cell (hc j hj) (by simp; omega)⟩
    · exact ((HB3.out.trans (HB4.out.mono (by omega)))).grown hsg hb4 (fun k hk => by injection hk with hk; omega)
  · have hne : (er != 0) = true := by simpa using her
    obtain rfl : rl = [] := HL0.out her
    have HNE := Lib.hid her
    clear her
    go_wp2_with (fail)
    generalize w3.alloc (.cells #[.slice VA ([] : List Res).length VC, I a, I er] 46) = w4 at *
    go_still_tail 3, (by kernel_rfl)
    change wpList _ _ _ _ _ w4.drew
    go_wp2_with (fail)
    refine bodyPost_ret (results_tmp_reply rfl _ _ w.heap.size _ _ _ rfl (set3 w4.drew w.heap.size _ _ _ _ H7.out _ _ _)) rfl ?_
    have hsg : w4.grownBy (((w4.setCell ⟨w.heap.size, 0, none⟩ (.slice VA ([] : List Res).length VC)).setCell ⟨w.heap.size, 1, none⟩ (I a)).setCell ⟨w.heap.size, 2, none⟩ (I er)).drew (some w.heap.size) := World.grownBy.trans (set3_grown w4 w.heap.size (.slice VA ([] : List Res).length VC) (I a) (I er)) (grown_drew _ _)
    have hb4 : w.heap.size ≤ w4.heap.size := by have := HB4.out.size; omega
    exact ⟨VA, VC, rfl, ((HB3.out.trans (HB4.out.mono (by omega)))).grown hsg hb4 (fun k hk => by injection hk with hk; omega)⟩
end Go.Proofs.YtabdldfigjkfaaaGreatDoor
