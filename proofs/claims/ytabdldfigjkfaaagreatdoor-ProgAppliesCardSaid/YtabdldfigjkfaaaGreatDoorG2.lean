import Derived.Test.YtabdldfigjkfaaaGreatDoorF2
import Derived.Test.YtabdldfigjkfaaaGreatDoorG1
namespace Go.Proofs.YtabdldfigjkfaaaGreatDoor
open Go Go.RowKit

/-! prog.Run. -/
abbrev Res := List Int × Val
def resCs (vs : List Value) (rl : List Res) : List Value := (vs.zip rl).flatMap fun p => [p.1, I p.2.2.t, I p.2.2.n, .string p.2.2.s]
/-- Slices that hold what results list; their blocks. -/
def ResVs (w : World) (base : Nat) (not : Nat → Prop) (vs : List Value) (rl : List Res) : Prop :=
  vs.length = rl.length ∧ ∀ i (h : i < rl.length) (h' : i < vs.length), ∃ A c, vs[i] = .slice A rl[i].1.length c ∧ Arr w A (rl[i].1.map I) ∧ ∀ b o, A = some ⟨b, o, none⟩ → rl[i].1 ≠ [] → base ≤ b ∧ ¬ not b
/-- A reply that grows. -/
def RepV (w : World) (rb base : Nat) (rl : List Res) (v : Value) (vs : List Value) : Prop :=
  w.heap[rb]? = some (.cells #[v, I 0, I 0] 120) ∧ w.ownsRow base 34 4 v rl.length (resCs vs rl) ∧ v.ownBlock ≠ some rb ∧ ResVs w base (fun b => b = rb ∨ v.ownBlock = some b) vs rl
def RepAt (w : World) (rb base : Nat) (rl : List Res) : Prop := ∃ v vs, RepV w rb base rl v vs
theorem ResVs.kept {w w' : World} {base : Nat} {not : Nat → Prop} {vs : List Value} {rl : List Res} (h : ResVs w base not vs rl) (hk : ∀ b, base ≤ b → ¬ not b → b < w.heap.size → w'.heap[b]? = w.heap[b]?) : ResVs w' base not vs rl := by
  refine ⟨h.1, fun i hi hi' => ?_⟩
  obtain ⟨A, c, h1, h2, h3⟩ := h.2 i hi hi'
  refine ⟨A, c, h1, fun hne => ?_, h3⟩
  obtain ⟨b, o, rfl, hc⟩ := h2 hne
  have hne' : rl[i].1 ≠ [] := fun e => hne (by rw [e]; rfl)
  obtain ⟨g1, g2⟩ := h3 b o rfl hne'
  refine ⟨b, o, rfl, fun j hj => ?_⟩
  have hlt := World.block_lt_of_cell? w _ (hc j hj)
  rw [World.cell?_of_block (w := w) (hk b g1 g2 hlt)]
  exact hc j hj
theorem RepV.grown {w w' : World} {rb base r : Nat} {rl : List Res} {v : Value} {vs : List Value} (h : RepV w rb base rl v vs) (hg : w.grownBy w' (some r)) (hr : r < base) (hrb : r ≠ rb) : RepV w' rb base rl v vs := by
  obtain ⟨h1, h2, h3, h4⟩ := h
  refine ⟨?_, h2.kept hg (.inr fun e => by have := own_base h2 _ e; omega), h3, h4.kept fun b hb _ hlt => hg.block b hlt (by simp; omega)⟩
  exact (hg.block rb (Array.getElem?_eq_some_iff.1 h1).1 (by simp; exact fun e => hrb e.symm)).trans h1
theorem RepAt.lt {w : World} {rb base : Nat} {rl : List Res} (h : RepAt w rb base rl) : rb < w.heap.size := by
  obtain ⟨v, vs, h1, _⟩ := h
  exact (Array.getElem?_eq_some_iff.1 h1).1
theorem resCs_snoc (vs : List Value) (rl : List Res) (v : Value) (x : Res) (h : vs.length = rl.length) : resCs (vs ++ [v]) (rl ++ [x]) = resCs vs rl ++ [v, I x.2.t, I x.2.n, .string x.2.s] := by
  unfold resCs
  rw [List.zip_append h, List.flatMap_append]; rfl
theorem RepAt.take {W0 W w' : World} {rb base : Nat} {rl : List Res} {x : Res} {v Lv v1 : Value} {vs : List Value} (_ : W.heap[rb]? = some (.cells #[v, I 0, I 0] 120)) (_ : v.ownBlock ≠ some rb) (hV : ResVs W base (fun b => b = rb ∨ v.ownBlock = some b) vs rl)
    (hLo : W.ownsRow W0.heap.size 3 1 Lv x.1.length (x.1.map I)) (hb0 : base ≤ W0.heap.size) (hrb : rb < W0.heap.size) (hvl : ∀ k, v.ownBlock = some k → k < W0.heap.size)
    (h1 : w'.heap[rb]? = some (.cells #[v1, I 0, I 0] 120)) (h2 : w'.ownsRow base 34 4 v1 (rl.length + 1) (resCs vs rl ++ [Lv, I x.2.t, I x.2.n, .string x.2.s]))
    (h3 : v1.ownBlock = v.ownBlock ∨ ∃ k, v1.ownBlock = some k ∧ W.heap.size ≤ k) (h4 : v1.ownBlock ≠ some rb) (hk : Kept2 W w' rb v.ownBlock) : RepAt w' rb base (rl ++ [x]) := by
  refine ⟨v1, vs ++ [Lv], h1, own_cast h2 (by simp) (resCs_snoc _ _ _ _ hV.1).symm, h4, by simp [hV.1], fun i hi hi' => ?_⟩
  by_cases hlt : i < rl.length
  · obtain ⟨A, c, g1, g2, g3⟩ := hV.2 i hlt (by rw [hV.1]; exact hlt)
    have e1 : (vs ++ [Lv])[i] = vs[i]'(by rw [hV.1]; exact hlt) := List.getElem_append_left (by rw [hV.1]; exact hlt)
    have e2 : (rl ++ [x])[i] = rl[i] := List.getElem_append_left hlt
    rw [e1, e2]
    refine ⟨A, c, g1, fun hne' => ?_, fun b o hA hn => ?_⟩
    · obtain ⟨b, o, rfl, hc⟩ := g2 hne'
      have hn : rl[i].1 ≠ [] := fun e => hne' (by rw [e]; rfl)
      obtain ⟨k1, k2⟩ := g3 b o rfl hn
      refine ⟨b, o, rfl, fun j hj => ?_⟩
      have hbl := World.block_lt_of_cell? W _ (hc j hj)
      rw [World.cell?_of_block (w := W) (hk.block b hbl (fun e => k2 (.inl e)) (fun e => k2 (.inr e)))]
      exact hc j hj
    · obtain ⟨k1, k2⟩ := g3 b o hA hn
      refine ⟨k1, fun hx => ?_⟩
      rcases hx with hx | hx
      · exact k2 (.inl hx)
      · rcases h3 with h3 | ⟨k, hk1, hk2⟩
        · exact k2 (.inr (by rw [← h3]; exact hx))
        · rw [hx] at hk1; injection hk1 with hk1; subst hk1
          obtain ⟨b', o', hA', hc⟩ := g2 (by intro e; exact hn (by simpa using e))
          rw [hA] at hA'; injection hA' with hA'; injection hA' with hA' _; subst hA'
          have := World.block_lt_of_cell? W _ (hc 0 (by simp; exact List.length_pos_iff.2 hn))
          simp at this; omega
  · have hi2 : i = rl.length := by simp at hi; omega
    subst hi2
    have e1 : (vs ++ [Lv])[rl.length] = Lv := by rw [List.getElem_append_right (by rw [hV.1]; omega)]; simp [hV.1]
    have e2 : (rl ++ [x])[rl.length] = x := by simp
    rw [e1, e2]
    obtain ⟨A, c, rfl, ha⟩ := own_arr hLo
    have hbb : ∀ b o, A = some ⟨b, o, none⟩ → x.1 ≠ [] → W0.heap.size ≤ b ∧ b < W.heap.size := fun b o hA hn => by
      subst hA
      exact ⟨own_base hLo b rfl, (hLo.lt b rfl).2⟩
    refine ⟨A, c, rfl, fun hne' => ?_, fun b o hA hn => ?_⟩
    · obtain ⟨b, o, rfl, hc⟩ := ha hne'
      have hn : x.1 ≠ [] := fun e => hne' (by rw [e]; rfl)
      obtain ⟨k1, k2⟩ := hbb b o rfl hn
      refine ⟨b, o, rfl, fun j hj => ?_⟩
      rw [World.cell?_of_block (w := W) (hk.block b k2 (by omega) (fun e => by have := hvl b e; omega))]
      exact hc j hj
    · obtain ⟨k1, k2⟩ := hbb b o hA hn
      refine ⟨by omega, fun hx => ?_⟩
      rcases hx with hx | hx
      · omega
      · rcases h3 with h3 | ⟨k, hk1, hk2⟩
        · rw [h3] at hx; have := hvl b hx; omega
        · rw [hx] at hk1; injection hk1 with hk1; omega
/-- Behind prog.Run: a reply, and a map. -/
def RunPost (w : World) (r : Nat) (a er : Int) (rl : List Res) (mf : KM) (e : Ending) (w' : World) : Prop :=
  ∃ v vs, e = .returned (.agg #[v, I a, I er]) ∧ w'.ownsRow w.heap.size 34 4 v rl.length (resCs vs rl) ∧ ResVs w' w.heap.size (fun b => v.ownBlock = some b) vs rl ∧ MapE w' r mf ∧ w.grownBy w' (some r)
/-- What op.Do tells of one op. -/
def DoIs (o : Opr) (g r : Nat) (room : Int) (m m' : KM) (er : Int) (x : Res) : Prop :=
  ∀ W : World, GraphAt W g r m → Calls Tryz.prog 17 #[sto g, I room, o.val] W fun e w' => ∃ Lv, e = .returned (.tuple #[.agg #[Lv, I x.2.t, I x.2.n, .string x.2.s], I er]) ∧ (w'.ownsRow W.heap.size 3 1 Lv x.1.length (x.1.map I) ∧ MapE w' r m' ∧ W.grownBy w' (some r))
theorem results_reply {fn : Func} {q : Tmp} (h : fn.results = #[.cell q 46]) (tmps : Array Value) (w : World) (b : Nat) (v0 v1 v2 : Value) (hp : tmps.getD q undef = .pointer (some ⟨b, 0, none⟩)) (hg : w.heap[b]? = some (.cells #[v0, v1, v2] 46)) :
    (results fn tmps).run Tryz.prog w = .ok (.agg #[v0, v1, v2]) w :=
  results_cell_row h tmps w b 46 _ _ _ hp hg Tryz.underlying46 rfl (by kernel_rfl)
theorem set3 (w : World) (b : Nat) (c0 c1 c2 : Value) (t : TypeId) (hg : w.heap[b]? = some (.cells #[c0, c1, c2] t)) (v0 v1 v2 : Value) :
    (((w.setCell ⟨b, 0, none⟩ v0).setCell ⟨b, 1, none⟩ v1).setCell ⟨b, 2, none⟩ v2).heap[b]? = some (.cells #[v0, v1, v2] t) := by
  simp [World.setCell, Array.getElem?_modify, hg]
theorem set3_grown (w : World) (b : Nat) (v0 v1 v2 : Value) : w.grownBy (((w.setCell ⟨b, 0, none⟩ v0).setCell ⟨b, 1, none⟩ v1).setCell ⟨b, 2, none⟩ v2) (some b) :=
  World.grownBy.trans (World.grownBy.trans (set_grown _ _ _ _) (set_grown _ _ _ _)) (set_grown _ _ _ _)
theorem row_cells {w : World} {b : Nat} {x0 x1 x2 : Value} {t : TypeId} (h : w.heap[b]? = some (.cells #[x0, x1, x2] t)) : w.cell? ⟨b, 0, none⟩ = some x0 ∧ w.cell? ⟨b, 1, none⟩ = some x1 ∧ w.cell? ⟨b, 2, none⟩ = some x2 ∧ w.frozen? ⟨b, 0, none⟩ = false ∧ w.frozen? ⟨b, 1, none⟩ = false ∧ w.frozen? ⟨b, 2, none⟩ = false :=
  ⟨cell_of_heap h 0 _ rfl, cell_of_heap h 1 _ rfl, cell_of_heap h 2 _ rfl, free_of_heap h 0, free_of_heap h 1, free_of_heap h 2⟩
set_option maxRecDepth 20000 in
set_option maxHeartbeats 2000000 in
theorem run_c (p : List Opr) (A : Option Addr) (c g r : Nat) (room : Int) (ms : Nat → KM) (rs : Nat → Res) (ers : Nat → Int) (n : Nat) (a er : Int) (rl : List Res) (mf : KM) (hn : n ≤ p.length) (hok : ∀ i, i < n → ers i = 0)
    (hfin : (n = p.length ∧ a = 0 ∧ er = 0 ∧ rl = (List.range n).map rs ∧ mf = ms n) ∨ (n < p.length ∧ ers n ≠ 0 ∧ a = n ∧ er = ers n ∧ rl = [] ∧ mf = ms (n + 1)))
    (w : World) (hG : GraphAt w g r (ms 0)) (hA : Arr w A (p.flatMap Opr.cs)) (hl : p.length ≤ 100000) (hD : ∀ i (hi : i < p.length), i ≤ n → DoIs p[i] g r room (ms i) (ms (i + 1)) (ers i) (rs i)) :
    Calls Tryz.prog 31 #[sto g, I room, .slice A p.length c] w fun e w' => RunPost w r a er rl mf e w' := by
  have HA := Lib.hid hA; clear hA
  have HD := Lib.hid hD; clear hD
  have HF := Lib.hid hfin; clear hfin
  have HK := Lib.hid hok; clear hok
  have hrl := hG.2.lt
  have HG := Lib.hid hG; clear hG
  go_enter Tryz.func31, Tryz.ntmps31
  have hT6 : ((w.alloc (.cells #[.slice none 0 0, I 0, I 0] 46)).alloc (.cells #[.slice none 0 0, I 0, I 0] 120)).heap[w.heap.size]? = some (.cells #[.slice none 0 0, I 0, I 0] 46) := by
    rw [Below.heap_alloc _ _ _ (by simp)]; exact heap_alloc_new _ _
  have hT7 : ((w.alloc (.cells #[.slice none 0 0, I 0, I 0] 46)).alloc (.cells #[.slice none 0 0, I 0, I 0] 120)).heap[w.heap.size + 1]? = some (.cells #[.slice none 0 0, I 0, I 0] 120) := by
    have := heap_alloc_new (w.alloc (.cells #[.slice none 0 0, I 0, I 0] 46)) (.cells #[.slice none 0 0, I 0, I 0] 120)
    simpa using this
  have HT6 := Lib.hid hT6
  have HT7 := Lib.hid hT7
  clear hT6 hT7
  go_wp2_with (fail)
  go_loopw [14] (fun i wr => ∃ k : Nat, k ≤ n ∧ i = .int .i64 k ∧ Hid (w.grownBy wr (some r)) ∧ Hid (MapE wr r (ms k)) ∧ Hid (RepAt wr (w.heap.size + 1) (w.heap.size + 2) ((List.range k).map rs)) ∧ Hid (wr.heap[w.heap.size]? = some (.cells #[.slice none 0 0, I 0, I 0] 46))) (fun i _ => p.length - (intOf i).toNat)
  case atStart =>
    have hb : Below w.heap.size w ((w.alloc (.cells #[.slice none 0 0, I 0, I 0] 46)).alloc (.cells #[.slice none 0 0, I 0, I 0] 120)) := ((Below.refl _ _).alloc (Nat.le_refl _) _).alloc (by simp) _
    refine ⟨0, Nat.zero_le _, rfl, Lib.hid (grown_below hb _), Lib.hid (HG.out.2.below hb), Lib.hid ⟨.slice none 0 0, [], HT7.out, World.ownsRow_nil _ _ _ _, by simp [Value.ownBlock], by simp, fun i h => by simp at h⟩, HT6⟩
  case round =>
    obtain ⟨k, hk, rfl, hgr, hm, hrep, h6⟩ := hrel
    by_cases hlt : k < p.length
    · obtain ⟨b, o, rfl, hbz, d0, d1, d2, d3, d4, d5, d6, d7, d8, d9⟩ := HA.out.op k hlt
      have hbr : ∀ i v, w.cell? ⟨b, i, none⟩ = some v → wr.cell? ⟨b, i, none⟩ = some v := fun i v h => hgr.out.cell h (by simpa using mapE_ne HG.out.2 h)
      replace d0 := hbr _ _ d0
      replace d1 := hbr _ _ d1
      replace d2 := hbr _ _ d2
      replace d3 := hbr _ _ d3
      replace d4 := hbr _ _ d4
      replace d5 := hbr _ _ d5
      replace d6 := hbr _ _ d6
      replace d7 := hbr _ _ d7
      replace d8 := hbr _ _ d8
      replace d9 := hbr _ _ d9
      clear hbr
      have hB0 : Below wr.heap.size wr (wr.alloc (.cells #[I p[k].kind, I p[k].a, I p[k].b, I p[k].k, I p[k].v.t, I p[k].v.n, .string p[k].v.s, I p[k].w.t, I p[k].w.n, .string p[k].w.s] 26)) := (Below.refl _ _).alloc (Nat.le_refl _) _
      have hGk : GraphAt (wr.alloc (.cells #[I p[k].kind, I p[k].a, I p[k].b, I p[k].k, I p[k].v.t, I p[k].v.n, .string p[k].v.s, I p[k].w.t, I p[k].w.n, .string p[k].w.s] 26)) g r (ms k) :=
        GraphAt.below ⟨hgr.out.cell HG.out.1 (by have := HG.out.ne; simpa using this), hm.out⟩ hB0
      have hDk := HD.out k hlt hk _ hGk
      obtain ⟨v, vs, hrv⟩ := hrep.out
      have hvl : ∀ q, v.ownBlock = some q → q < (wr.alloc (.cells #[I p[k].kind, I p[k].a, I p[k].b, I p[k].k, I p[k].v.t, I p[k].v.n, .string p[k].v.s, I p[k].w.t, I p[k].w.n, .string p[k].w.s] 26)).heap.size := fun q hq => Nat.lt_of_lt_of_le (hrv.2.1.lt q hq).2 hB0.size
      have hrbl : w.heap.size + 1 < wr.heap.size := (Array.getElem?_eq_some_iff.1 hrv.1).1
      have HB0 := Lib.hid hB0
      have HVL := Lib.hid hvl
      have HRV := Lib.hid hrv
      have HGW := Lib.hid hgr.out.size
      clear hB0 hGk hvl hrv
      by_cases hkn : k < n
      · rw [HK.out k hkn] at hDk
        have HDK := Lib.hid hDk
        clear hDk
        go_wp2_with (fail)
        refine HDK.out.mono ?_
        rintro e w2 ⟨Lv, rfl, ho2, hm2, hg2⟩
        have hz2 : w.heap.size + 2 ≤ w2.heap.size := Nat.le_trans (by omega) (Nat.le_trans HB0.out.size hg2.size)
        have HG2 := Lib.hid (World.grownBy.trans (grown_below HB0.out (some r)) hg2)
        obtain ⟨q1, q2, q3, q4⟩ := HRV.out.grown HG2.out (by omega) (by omega)
        have HQ4 := Lib.hid q4
        have HO2 := Lib.hid ho2
        have HM2 := Lib.hid hm2
        have htk := take_ok (w.heap.size + 1) (w.heap.size + 2) _ v Lv _ (rs k).2.s (rs k).2.t (rs k).2.n w2 q1 q2 (by simp; omega) q3 hz2 (by obtain ⟨A, c, e, _⟩ := own_arr ho2; exact ⟨_, _, _, e⟩)
        have HTK := Lib.hid htk
        have Q1 := Lib.hid q1
        have Q3 := Lib.hid q3
        have HS2 := Lib.hid hg2.size
        clear ho2 hm2 hg2 q1 q2 q3 q4 htk
        go_wp2_with (fail)
        refine HTK.out.mono ?_
        rintro e w3 ⟨rfl, v1, h1, h2, h3, h4, h5⟩
        have hr3 := Lib.hid (RepAt.take (W0 := wr.alloc (.cells #[I p[k].kind, I p[k].a, I p[k].b, I p[k].k, I p[k].v.t, I p[k].v.n, .string p[k].v.s, I p[k].w.t, I p[k].w.n, .string p[k].w.s] 26)) (x := rs k) Q1.out Q3.out HQ4.out HO2.out (by have := HB0.out.size; omega) (by have := HB0.out.size; omega) HVL.out h1 h2 h3 h4 h5)
        have H5 := Lib.hid h5
        clear h1 h2 h3 h4 h5
        go_wp2_with (fail)
        go_roundw
        case rel =>
          have hrow : ∀ q, v.ownBlock = some q → w.heap.size + 2 ≤ q := fun q hq => own_base HRV.out.2.1 q hq
          refine ⟨k + 1, by omega, by go_num, Lib.hid ⟨H5.out.os.trans (HG2.out.os.trans hgr.out.os), H5.out.tape.trans (HG2.out.tape.trans hgr.out.tape), H5.out.output.trans (HG2.out.output.trans hgr.out.output), Nat.le_trans hgr.out.size (Nat.le_trans HG2.out.size H5.out.size), fun i hi hne => ?_⟩, Lib.hid (HM2.out.keep ?_), ?_, Lib.hid ?_⟩
          · have hi1 : i < wr.heap.size := by omega
            exact (H5.out.block i (Nat.lt_of_lt_of_le hi1 HG2.out.size) (by omega) (fun e => by have := hrow i e; omega)).trans ((HG2.out.block i hi1 hne).trans (hgr.out.block i hi hne))
          · exact H5.out.block r (by omega) (by omega) (fun e => by have := hrow r e; omega)
          · have := hr3.out
            rw [show (List.range k).map rs ++ [rs k] = (List.range (k + 1)).map rs by rw [List.range_succ, List.map_append]; rfl] at this
            exact Lib.hid this
          · exact (H5.out.block _ (by omega) (by omega) (fun e => by have := hrow _ e; omega)).trans ((HG2.out.block _ (by omega) (by simp; omega)).trans h6.out)
        case measure => simp [intOf]; omega
      · obtain rfl : k = n := by omega
        have hf : ers k ≠ 0 ∧ a = k ∧ er = ers k ∧ rl = [] ∧ mf = ms (k + 1) := by
          rcases HF.out with h | h
          · omega
          · exact ⟨h.2.1, h.2.2.1, h.2.2.2.1, h.2.2.2.2.1, h.2.2.2.2.2⟩
        obtain ⟨hx, rfl, rfl, rfl, rfl⟩ := hf
        have HDK := Lib.hid hDk
        have HX := Lib.hid hx
        clear hDk hx
        go_wp2_with (fail)
        refine HDK.out.mono ?_
        rintro e w2 ⟨Lv, rfl, ho2, hm2, hg2⟩
        have hz2 : w.heap.size + 2 ≤ w2.heap.size := Nat.le_trans (by omega) (Nat.le_trans HB0.out.size hg2.size)
        have HG2 := Lib.hid (World.grownBy.trans (grown_below HB0.out (some r)) hg2)
        obtain ⟨q1, q2, q3, q4⟩ := HRV.out.grown HG2.out (by omega) (by omega)
        have htk := take_bad (w.heap.size + 1) (w.heap.size + 2) _ v Lv _ (rs k).2.s (rs k).2.t (rs k).2.n (ers k) w2 q1 q2 HX.out (by obtain ⟨A, c, e, _⟩ := own_arr ho2; exact ⟨_, _, _, e⟩)
        rw [show ((List.range k).map rs).length = k by simp] at htk
        have HTK := Lib.hid htk
        have HM2 := Lib.hid hm2
        clear ho2 hm2 hg2 q1 q2 q3 q4 htk
        go_wp2_with (fail)
        refine HTK.out.mono ?_
        rintro e w3 ⟨rfl, h1, h5⟩
        have H5 := Lib.hid h5
        have H1 := Lib.hid h1
        have h63 := (h5.block _ (by omega) (by omega) (by simp)).trans ((HG2.out.block _ (by omega) (by simp; omega)).trans h6.out)
        have H63 := Lib.hid h63
        obtain ⟨x0, x1, x2, -, -, -⟩ := row_cells h1
        obtain ⟨y0, y1, y2, f0, f1, f2⟩ := row_cells h63
        clear h1 h5 h63
        go_wp2_with (fail)
        try simp only [Exit.inBlock, Exit.then]
        refine bodyPost_ret (results_reply rfl _ _ w.heap.size _ _ _ rfl (set3 w3 w.heap.size _ _ _ _ H63.out _ _ _)) rfl ?_
        have hsg := set3_grown w3 w.heap.size (.slice none 0 0) (I k) (I (ers k))
        have hz3 : r < w3.heap.size := by have := H5.out.size; omega
        refine ⟨_, [], rfl, World.ownsRow_nil _ _ _ _, ⟨rfl, fun i h => by simp at h⟩, (HM2.out.keep (H5.out.block r (by omega) (by omega) (by simp))).keep (hsg.block r hz3 (by simp; omega)), ?_⟩
        refine ⟨hsg.os.trans (H5.out.os.trans (HG2.out.os.trans hgr.out.os)), hsg.tape.trans (H5.out.tape.trans (HG2.out.tape.trans hgr.out.tape)), hsg.output.trans (H5.out.output.trans (HG2.out.output.trans hgr.out.output)), Nat.le_trans hgr.out.size (Nat.le_trans HG2.out.size (Nat.le_trans H5.out.size hsg.size)), fun i hi hne => ?_⟩
        have hi1 : i < wr.heap.size := by omega
        have hi2 := Nat.lt_of_lt_of_le hi1 HG2.out.size
        exact (hsg.block i (Nat.lt_of_lt_of_le hi2 H5.out.size) (by simp; omega)).trans ((H5.out.block i hi2 (by omega) (by simp)).trans ((HG2.out.block i hi1 hne).trans (hgr.out.block i hi hne)))
    · have hf : k = n ∧ n = p.length ∧ a = 0 ∧ er = 0 ∧ rl = (List.range n).map rs ∧ mf = ms n := by
        rcases HF.out with h | h
        · exact ⟨by omega, h⟩
        · omega
      obtain ⟨rfl, -, rfl, rfl, rfl, rfl⟩ := hf
      obtain ⟨v, vs, hrv⟩ := hrep.out
      have HRV := Lib.hid hrv
      obtain ⟨x0, x1, x2, -, -, -⟩ := row_cells hrv.1
      obtain ⟨y0, y1, y2, f0, f1, f2⟩ := row_cells h6.out
      have hrbl : w.heap.size + 1 < wr.heap.size := (Array.getElem?_eq_some_iff.1 hrv.1).1
      clear hrv
      obtain ⟨A', c', hvv, -⟩ := own_arr HRV.out.2.1
      rw [show ((List.range k).map rs).length = k by simp] at hvv
      subst hvv
      go_wp2_with (fail)
      try simp only [Exit.inBlock, Exit.then]
      refine bodyPost_ret (results_reply rfl _ _ w.heap.size _ _ _ rfl (set3 wr w.heap.size _ _ _ _ h6.out _ _ _)) rfl ?_
      have hsg := set3_grown wr w.heap.size (.slice A' k c') (I 0) (I 0)
      have hrow : ∀ q, (Value.slice A' k c').ownBlock = some q → w.heap.size + 2 ≤ q := fun q hq => own_base HRV.out.2.1 q hq
      refine ⟨_, vs, rfl, own_mono (HRV.out.2.1.kept hsg (.inr fun e => by have := hrow _ e; omega)) (by omega), ⟨HRV.out.2.2.2.1, fun i h h' => ?_⟩, hm.out.keep (hsg.block r (by omega) (by simp; omega)), ?_⟩
      · obtain ⟨A2, c2, g1, g2, g3⟩ := HRV.out.2.2.2.2 i h h'
        refine ⟨A2, c2, g1, fun hne => ?_, fun b o hA hn => ⟨by have := (g3 b o hA hn).1; omega, fun e => (g3 b o hA hn).2 (.inr e)⟩⟩
        obtain ⟨b, o, rfl, hc⟩ := g2 hne
        have hb := (g3 b o rfl (fun e => hne (by rw [e]; rfl))).1
        exact ⟨b, o, rfl, fun j hj => hsg.cell (hc j hj) (by simp; omega)⟩
      · exact ⟨hsg.os.trans hgr.out.os, hsg.tape.trans hgr.out.tape, hsg.output.trans hgr.out.output, Nat.le_trans hgr.out.size hsg.size, fun i hi hne => (hsg.block i (by omega) (by simp; omega)).trans (hgr.out.block i hi hne)⟩
end Go.Proofs.YtabdldfigjkfaaaGreatDoor
