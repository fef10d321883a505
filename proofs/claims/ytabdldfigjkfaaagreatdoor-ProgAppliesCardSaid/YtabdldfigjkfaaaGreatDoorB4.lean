import Derived.Test.YtabdldfigjkfaaaGreatDoorB3
import Derived.Deep.RegionHeld3
namespace Go.Proofs.YtabdldfigjkfaaaGreatDoor
open Go Go.RowKit

/-- 'app1', at a step of a region that draws its order. -/
theorem app1s {P : Program} {ops : Array Oper} {o : Oper} {a : Act} {K : Act → World → Prop} {Q : Exit → Act → World → Prop} {E : Prop} {W : World} (base : Nat) (hgd : o.guard = none) (s x : Operand) (t e : TypeId) (z : Value) (size bytes : Nat)
    (ho : o.op = .call { callee := .builtin .append, args := #[s, x], argTypes := #[t, t] })
    (ht : P.underlying t = some (.slice e)) (hinfo : (P.info? e).map (fun i => (i.zero, i.size, i.bytes)) = some (some z, size, bytes)) (hz : z.cells.size = size) (hs0 : 0 < size) (hb0 : 0 < bytes)
    {v : Value} {n : Nat} {xs : List Value} (HO : W.ownsRow base e size v n xs) (ys : List Value) (hs : a.eval s = v) (b : Nat) (hx : a.eval x = .slice (some ⟨b, 0, none⟩) 1 1) (hb : b = W.heap.size) (h1 : ∀ y ∈ ys, y.oneCell' = true) (hy : ys.length = size)
    (hbase : base ≤ W.heap.size) (hl : (n + 1) * bytes ≤ 140737488355328)
    (h : ∀ v1 w1, w1.ownsRow base e size v1 (n + 1) (xs ++ ys) → Below base W w1 → (W.alloc (.cells ys.toArray e)).grownBy w1 v.ownBlock → K (a.put o.dst v1) w1) :
    if Region.wanted o (yielded ops a.tmps) = true then Oper.wp P o a (W.alloc (.cells ys.toArray e)) K Q else E := by
  subst hb
  obtain ⟨i0, hi, hzz⟩ := Option.map_eq_some_iff.1 hinfo
  simp only [Prod.mk.injEq] at hzz
  obtain ⟨hz0, hz1, hz2⟩ := hzz
  have hlen : n + 1 ≤ 140737488355328 := Nat.le_trans (Nat.le_mul_of_pos_right _ hb0) hl
  refine step_append_lies (W.alloc (.cells ys.toArray e)) hgd s x t ho base e i0 z size bytes ht hi hz0 hz1 hz2 hz hs0 v n xs hs (HO.alloc _) ⟨W.heap.size, 0, none⟩ 1 1 ys hx (by simpa using hy)
    (World.news_of_block (cs := ys.toArray) (t := e) (fr := (0, 0)) (heap_alloc_new W _)) h1 (by omega) (by simp only [maxLen]; omega) hl (by simp; omega) (W.heap.size + 1) (by simp) ?_
  intro g cap w1 hown hg _ _
  exact h _ w1 hown (((Below.refl base W).alloc hbase _).grown hg (by simp; omega) (own_base HO)) hg
/-- 'app1', with where the row lies. -/
theorem app1d {P : Program} {ops : Array Oper} {rest : List Oper} {o : Oper} {a : Act} {Q : Exit → Act → World → Prop} {W : World} (base : Nat) (hgd : o.guard = none) (s x : Operand) (t e : TypeId) (z : Value) (size bytes : Nat)
    (ho : o.op = .call { callee := .builtin .append, args := #[s, x], argTypes := #[t, t] })
    (ht : P.underlying t = some (.slice e)) (hinfo : (P.info? e).map (fun i => (i.zero, i.size, i.bytes)) = some (some z, size, bytes)) (hz : z.cells.size = size) (hs0 : 0 < size) (hb0 : 0 < bytes)
    {v : Value} {n : Nat} {xs : List Value} (HO : W.ownsRow base e size v n xs) (ys : List Value) (hs : a.eval s = v) (b : Nat) (hx : a.eval x = .slice (some ⟨b, 0, none⟩) 1 1) (hb : b = W.heap.size) (h1 : ∀ y ∈ ys, y.oneCell' = true) (hy : ys.length = size)
    (hbase : base ≤ W.heap.size) (hl : (n + 1) * bytes ≤ 140737488355328)
    (h : ∀ v1 w1, w1.ownsRow base e size v1 (n + 1) (xs ++ ys) → Below base W w1 → W.grownBy w1 v.ownBlock → (v1.ownBlock = v.ownBlock ∨ ∃ k, v1.ownBlock = some k ∧ W.heap.size ≤ k) → wpList P ops Q rest (a.put o.dst v1) w1) :
    wpList P ops Q (o :: rest) a (W.alloc (.cells ys.toArray e)) := by
  subst hb
  obtain ⟨i0, hi, hzz⟩ := Option.map_eq_some_iff.1 hinfo
  simp only [Prod.mk.injEq] at hzz
  obtain ⟨hz0, hz1, hz2⟩ := hzz
  have hlen : n + 1 ≤ 140737488355328 := Nat.le_trans (Nat.le_mul_of_pos_right _ hb0) hl
  refine wpList_append_own_at (W.alloc (.cells ys.toArray e)) hgd s x t ho base e i0 z size bytes ht hi hz0 hz1 hz2 hz hs0 v n xs hs (HO.alloc _) ⟨W.heap.size, 0, none⟩ 1 1 ys hx (by simpa using hy)
    (World.news_of_block (cs := ys.toArray) (t := e) (fr := (0, 0)) (heap_alloc_new W _)) h1 (by simp only [maxLen]; omega) hl (by simp; omega) ?_
  intro v1 w1 hown hg _ hat
  exact h v1 w1 hown (((Below.refl base W).alloc hbase _).grown hg (by simp; omega) (own_base HO)) (World.grownBy.trans (World.grownBy_alloc W _ _) hg) (hat.imp id fun h => ⟨_, h, by simp⟩)
theorem arr_grown {w w1 : World} {b o : Nat} {cs : List Value} {row : Option Nat} (h : Arr w (some ⟨b, o, none⟩) cs) (hg : w.grownBy w1 row) (hne : row ≠ some b) : Arr w1 (some ⟨b, o, none⟩) cs := fun h0 => by
  obtain ⟨b', o', he, hc⟩ := h h0
  injection he with he; injection he with h1 h2; subst h1; subst h2
  exact ⟨b, o, rfl, fun j hj => hg.cell (hc j hj) (Ne.symm hne)⟩
theorem own_at {w : World} {base : Nat} {e : TypeId} {size n c : Nat} {A : Option Addr} {l : List Wr} (h : w.ownsRow base e size (.slice A n c) n (l.flatMap Wr.cs)) (b o : Nat) (hA : A = some ⟨b, o, none⟩) (_ : l ≠ []) : base ≤ b := by
  subst hA
  rcases h.2 with ⟨h2, _⟩ | ⟨g, cap, cur, hv, hb, _⟩
  · cases h2
  · injection hv with hv; injection hv with hv; injection hv with h1 h2; subst h1; exact hb
theorem own_lt {w : World} {base : Nat} {e : TypeId} {size n : Nat} {v : Value} {xs : List Value} (h : w.ownsRow base e size v n xs) {i : Nat} (hi : w.heap.size ≤ i) : v.ownBlock ≠ some i := fun k => by have := (h.lt i k).2; omega
theorem heldStep3 {W1 W2 : World} {a0 a1 a2 : Addr} {v0 v1 v2 : Value} (hb : Below W1.heap.size W1 W2)
    (h : W1.cell? a0 = some v0 ∧ W1.cell? a1 = some v1 ∧ W1.cell? a2 = some v2) :
    W2.cell? a0 = some v0 ∧ W2.cell? a1 = some v1 ∧ W2.cell? a2 = some v2 :=
  ⟨cell_keep hb h.1, cell_keep hb h.2.1, cell_keep hb h.2.2⟩
theorem heldGrow3 {W1 W2 : World} {a0 a1 a2 : Addr} {v0 v1 v2 : Value} {row : Option Nat} (hb : W1.grownBy W2 row)
    (h : W1.cell? a0 = some v0 ∧ W1.cell? a1 = some v1 ∧ W1.cell? a2 = some v2) (h0 : row ≠ some a0.block) (h1 : row ≠ some a1.block) (h2 : row ≠ some a2.block) :
    W2.cell? a0 = some v0 ∧ W2.cell? a1 = some v1 ∧ W2.cell? a2 = some v2 :=
  ⟨hb.cell h.1 (Ne.symm h0), hb.cell h.2.1 (Ne.symm h1), hb.cell h.2.2 (Ne.symm h2)⟩
theorem heldStep4 {W W1 W2 : World} {a0 a1 a2 a3 : Addr} {v0 v1 v2 v3 : Value} (hb : Below W1.heap.size W1 W2)
    (h : Below W.heap.size W W1 ∧ W1.cell? a0 = some v0 ∧ W1.cell? a1 = some v1 ∧ W1.cell? a2 = some v2 ∧ W1.cell? a3 = some v3) :
    Below W.heap.size W W2 ∧ W2.cell? a0 = some v0 ∧ W2.cell? a1 = some v1 ∧ W2.cell? a2 = some v2 ∧ W2.cell? a3 = some v3 :=
  ⟨below_then h.1 h.1.size hb, cell_keep hb h.2.1, cell_keep hb h.2.2.1, cell_keep hb h.2.2.2.1, cell_keep hb h.2.2.2.2⟩

def effA (b : KM) (l : List Wr) : List Wr := l.filterMap fun x => if mget b x.k = x.v then none else some ⟨x.k, mget b x.k⟩
def effB (a : KM) (l : List Wr) : List Wr := l.filter fun x => decide (mget a x.k = emp)
/-- l is what turns a into b. -/
def IsEff (a b : KM) (l : List Wr) : Prop := ∃ la lb, IsAll a la ∧ IsAll b lb ∧ l.Perm (effA b la ++ effB a lb) ∧ Asc l
theorem effA_take (b : KM) (l : List Wr) (n : Nat) (h : n < l.length) : effA b (l.take (n + 1)) = effA b (l.take n) ++ if mget b l[n].k = l[n].v then [] else [⟨l[n].k, mget b l[n].k⟩] := by
  unfold effA; rw [List.take_succ_eq_append_getElem h, List.filterMap_append]; congr 1; simp only [List.filterMap_cons, List.filterMap_nil]; split <;> rename_i h <;> split at h <;> simp_all
theorem effB_take (a : KM) (l : List Wr) (n : Nat) (h : n < l.length) : effB a (l.take (n + 1)) = effB a (l.take n) ++ if mget a l[n].k = emp then [l[n]] else [] := by
  unfold effB; rw [List.take_succ_eq_append_getElem h, List.filter_append]; congr 1; simp only [List.filter_cons, List.filter_nil]; split <;> simp_all
theorem effA_len (b : KM) (l : List Wr) : (effA b l).length ≤ l.length := List.length_filterMap_le _ _
theorem effB_len (a : KM) (l : List Wr) : (effB a l).length ≤ l.length := List.length_filter_le _ _

theorem IsAll.len {m : KM} {l : List Wr} (h : IsAll m l) : l.length = m.length := by simpa using h.1.length_eq

theorem peffect_nil (w : World) : Calls Tryz.prog 25 #[.pointer none, .pointer none] w fun e w' => ∃ A c, e = .returned (.slice A 0 c) ∧ Below w.heap.size w w' := by
  have hso := (sortW_c 66 [] (.slice none 0 0) w.heap.size w (fun args w => by kernel_rfl) wcmp66_c (World.ownsRow_nil _ _ _ _) (by simp)).mono (fun e w' h => (⟨h.1, by
    obtain ⟨l', hp, _, ho, hg⟩ := h.2
    exact ⟨hg.os, hg.tape, hg.output, hg.size, fun i hi => hg.block i hi (by rw [show (Value.slice none 0 0).ownBlock = none from rfl]; simp)⟩⟩ : e = .returned (.tuple #[]) ∧ Below w.heap.size w w'))
  go_enter Tryz.func25, Tryz.ntmps25
  go_wp2_with (go_at_call 20; refine (gall_nil _).mono ?_; rintro e w1 ⟨rfl, hw⟩; replace hw := hw.symm; subst hw)
  go_loopw [5, 13] (fun s i wr => s = .slice none 0 0 ∧ i = .int .i64 0 ∧ wr = w) (fun _ _ _ => 0)
  case atStart => exact ⟨rfl, rfl, rfl⟩
  case round =>
    obtain ⟨rfl, rfl, hw⟩ := hrel
    replace hw := hw.symm
    subst hw
    go_wp2_with (go_at_call 20; refine (gall_nil _).mono ?_; rintro e w1 ⟨rfl, hw⟩; replace hw := hw.symm; subst hw)
    go_loopw [5, 38] (fun s i wr' => s = .slice none 0 0 ∧ i = .int .i64 0 ∧ wr' = w) (fun _ _ _ => 0)
    case atStart => exact ⟨rfl, rfl, rfl⟩
    case round =>
      obtain ⟨rfl, rfl, hw⟩ := hrel
      replace hw := hw.symm
      subst hw
      go_wp2_with (go_at_call 58; refine hso.mono ?_; rintro e w3 ⟨rfl, hb⟩; have HB := Lib.hid hb; clear hb)
      go_ret
      exact ⟨_, _, rfl, HB.out⟩

set_option maxRecDepth 20000 in
set_option maxHeartbeats 2000000 in
theorem peffect_c (ga ra gb rb : Nat) (a b : KM) (w : World) (hA : GraphAt w ga ra a) (hB : GraphAt w gb rb b) (hla : a.length ≤ 549755813888) (hlb : b.length ≤ 549755813888) :
    Calls Tryz.prog 25 #[ptr ga, ptr gb] w fun e w' => ∃ l v, IsEff a b l ∧ e = .returned v ∧ w'.ownsRow w.heap.size 100 4 v l.length (l.flatMap Wr.cs) ∧ Below w.heap.size w w' := by
  have HA := Lib.hid hA
  have HB := Lib.hid hB
  clear hA hB
  go_enter Tryz.func25, Tryz.ntmps25
  go_wp2_with (go_at_call 20; refine (gall_c ga ra a _ HA.out (by omega)).mono ?_; rintro e w1 ⟨la, v, hl1, rfl, ho1, hb1⟩; obtain ⟨A, c, rfl, ha1⟩ := own_arr ho1; have HL1 := Lib.hid hl1; have HA1 := Lib.hid ha1; have HB1 := Lib.hid hb1; clear hl1 ho1 hb1 ha1)
  have hlen1 := Lib.hid HL1.out.len
  have hlb1 : la.length ≤ 549755813888 := by rw [hlen1.out]; exact hla
  go_loopw [5, 13] (fun s i wr => ∃ n : Nat, n ≤ la.length ∧ i = .int .i64 n ∧ wr.ownsRow w1.heap.size 100 4 s (effA b (la.take n)).length ((effA b (la.take n)).flatMap Wr.cs) ∧ Below w1.heap.size w1 wr) (fun _ i _ => la.length - (intOf i).toNat)
  case atStart => exact ⟨0, Nat.zero_le _, rfl, World.ownsRow_nil _ _ _ _, Below.refl _ _⟩
  case round =>
    obtain ⟨n, hn, rfl, ho, hb⟩ := hrel
    obtain ⟨S, sc, rfl, _⟩ := own_arr ho
    have HO := Lib.hid ho
    have HBel := Lib.hid hb
    clear ho hb
    by_cases hlt : n < la.length
    · obtain ⟨bl, o, rfl, hbz, d0, d1, d2, d3⟩ := HA1.out.wr n hlt
      replace d0 := cell_keep HBel.out d0
      replace d1 := cell_keep HBel.out d1
      replace d2 := cell_keep HBel.out d2
      replace d3 := cell_keep HBel.out d3
      have hW : Below wr.heap.size wr (wr.alloc (.cells #[I la[n].k.kind, I la[n].k.a, I la[n].k.b, .string la[n].v] 100)) := (Below.refl _ _).alloc (Nat.le_refl _) _
      have c0 : (wr.alloc (.cells #[I la[n].k.kind, I la[n].k.a, I la[n].k.b, .string la[n].v] 100)).cell? ⟨wr.heap.size, 0, none⟩ = some (I la[n].k.kind) := by simp
      have c1 : (wr.alloc (.cells #[I la[n].k.kind, I la[n].k.a, I la[n].k.b, .string la[n].v] 100)).cell? ⟨wr.heap.size, 1, none⟩ = some (I la[n].k.a) := by simp
      have c2 : (wr.alloc (.cells #[I la[n].k.kind, I la[n].k.a, I la[n].k.b, .string la[n].v] 100)).cell? ⟨wr.heap.size, 2, none⟩ = some (I la[n].k.b) := by simp
      have c3 : (wr.alloc (.cells #[I la[n].k.kind, I la[n].k.a, I la[n].k.b, .string la[n].v] 100)).cell? ⟨wr.heap.size, 3, none⟩ = some (.string la[n].v) := by simp
      have hgb : ∀ w2, Below (wr.alloc (.cells #[I la[n].k.kind, I la[n].k.a, I la[n].k.b, .string la[n].v] 100)).heap.size (wr.alloc (.cells #[I la[n].k.kind, I la[n].k.a, I la[n].k.b, .string la[n].v] 100)) w2 → GraphAt w2 gb rb b := fun w2 h2 =>
        (((HB.out.below (HB1.out)).below HBel.out).below hW).below h2
      have HGB := Lib.hid hgb
      have HW := Lib.hid hW
      clear hW hgb
      go_wp2_with (fail)
      generalize wr.alloc (.cells #[I la[n].k.kind, I la[n].k.a, I la[n].k.b, .string la[n].v] 100) = W at *
      go_region_held3 (fun W' => Below W.heap.size W W' ∧ W'.cell? ⟨wr.heap.size, 0, none⟩ = some (I la[n].k.kind) ∧ W'.cell? ⟨wr.heap.size, 1, none⟩ = some (I la[n].k.a) ∧ W'.cell? ⟨wr.heap.size, 2, none⟩ = some (I la[n].k.b) ∧ W'.cell? ⟨wr.heap.size, 3, none⟩ = some (.string la[n].v))
        (first | exact ⟨(Below.refl _ _).drew, c0, c1, c2, c3⟩ | exact heldStep4 (by assumption) (by assumption))
        (first | (go_at_call 65; refine (gget_c gb rb b la[n].k _ ?_).mono ?_; (exact HGB.out _ (And.left (by assumption))); rintro e w3 ⟨rfl, hb3⟩))
      by_cases hx : mget b la[n].k = la[n].v
      · have hx' : (ByteArray.toList (mget b la[n].k) == ByteArray.toList la[n].v) = true := by rw [str_beq]; exact decide_eq_true hx
        rw [hx']
        have hE := Lib.hid (effA_take b la n hlt)
        have HX := Lib.hid hx
        rename_i hh
        have hH := Lib.hid hh.1
        clear hx hx' hh
        go_wp2_with (fail)
        go_roundw
        case rel =>
          refine ⟨n + 1, by omega, by go_num, ?_, ?_⟩
          · have := hE.out
            rw [if_pos HX.out, List.append_nil] at this
            rw [this]
            exact own_below (own_below HO.out HW.out) hH.out
          · exact below_then HBel.out HBel.out.size (below_then HW.out HW.out.size hH.out)
        case measure => simp [intOf]; omega
      · have hx' : (ByteArray.toList (mget b la[n].k) == ByteArray.toList la[n].v) = false := by rw [str_beq]; exact decide_eq_false hx
        rw [hx']
        have hE := Lib.hid (effA_take b la n hlt)
        have HX := Lib.hid hx
        rename_i hh
        have hH := Lib.hid hh.1
        obtain ⟨-, d0, d1, d2, d3⟩ := hh
        clear hx hx'
        go_wp2_with (fail)
        have hz3 : w1.heap.size ≤ w3.heap.size := Nat.le_trans (Nat.le_trans HBel.out.size HW.out.size) hH.out.size
        have hEl := effA_len b (la.take n)
        rw [List.length_take, Nat.min_eq_left hn] at hEl
        have hne := Lib.hid (own_lt HO.out (Nat.le_refl _))
        go_region_held3 (fun W' => W'.cell? ⟨wr.heap.size, 0, none⟩ = some (I la[n].k.kind) ∧ W'.cell? ⟨wr.heap.size, 1, none⟩ = some (I la[n].k.a) ∧ W'.cell? ⟨wr.heap.size, 2, none⟩ = some (I la[n].k.b))
          (first | exact ⟨d0, d1, d2⟩ | exact heldStep3 (HB4.out) (by assumption) | exact heldStep3 ((Below.refl _ _).alloc (Nat.le_refl _) _) (by assumption) | exact heldGrow3 hgr5 (by assumption) hne.out hne.out hne.out)
          (first
            | (go_at_call 65; refine (gget_c gb rb b la[n].k _ ((HGB.out _ hH.out).below (Below.refl _ _).drew)).mono ?_; rintro e w4 ⟨rfl, hb4⟩; have HB4 := Lib.hid hb4; clear hb4)
            | (refine app1s w1.heap.size rfl _ _ 28 100 _ 4 40 rfl Tryz.underlying28 info100 rfl (by decide) (by decide) (own_below (own_below (own_below (own_below HO.out HW.out) hH.out) (Below.refl _ _).drew) HB4.out) [I la[n].k.kind, I la[n].k.a, I la[n].k.b, .string (mget b la[n].k)] rfl _ rfl rfl (wr_one ⟨la[n].k, mget b la[n].k⟩) rfl (Nat.le_trans hz3 HB4.out.size) (by omega) ?_; intro v1 w5 hown5 hb5 hgr5; have HO5 := Lib.hid hown5; clear hown5; have HB5 := Lib.hid hb5; clear hb5))
        all_goals
          go_wp2_with (fail)
          go_roundw
          case rel =>
            refine ⟨n + 1, by omega, by go_num, ?_, ?_⟩
            · have := hE.out
              rw [if_neg HX.out] at this
              rw [this]
              exact own_cast HO5.out (by simp) (by simp; rfl)
            · exact (below_dthen (below_then HBel.out HBel.out.size (below_then HW.out HW.out.size hH.out)) hz3 HB4.out).trans HB5.out
          case measure => simp [intOf]; omega
    · obtain rfl : n = la.length := by omega
      rw [List.take_length] at HO
      go_wp2_with (go_at_call 20; refine (gall_c gb rb b _ ((HB.out.below HB1.out).below HBel.out) (by omega)).mono ?_; rintro e w2 ⟨lb, v, hl2, rfl, ho2, hb2⟩; obtain ⟨A2, c2, rfl, ha2⟩ := own_arr ho2; have H2lt := Lib.hid (own_at ho2); have HL2 := Lib.hid hl2; have HA2 := Lib.hid ha2; have HB2 := Lib.hid hb2; clear hl2 ho2 hb2 ha2)
      have hlen2 := Lib.hid HL2.out.len
      have hlb2 : lb.length ≤ 549755813888 := by rw [hlen2.out]; exact hlb
      have HO2 := Lib.hid (own_below HO.out HB2.out)
      have HB12 := Lib.hid (below_then HBel.out HBel.out.size HB2.out)
      have hEl := effA_len b la
      have HO3 := Lib.hid HO.out
      clear HO
      go_loopw [5, 38] (fun s i wr => ∃ (n : Nat) (q : List Wr), n ≤ lb.length ∧ i = .int .i64 n ∧ Hid (q = effA b la ++ effB a (lb.take n)) ∧ wr.ownsRow w1.heap.size 100 4 s q.length (q.flatMap Wr.cs) ∧ Below w1.heap.size w1 wr ∧ Arr wr A2 (lb.flatMap Wr.cs) ∧ Hid (∀ b o, A2 = some ⟨b, o, none⟩ → lb ≠ [] → s.ownBlock ≠ some b)) (fun _ i _ => lb.length - (intOf i).toNat)
      case atStart =>
        refine ⟨0, effA b la, Nat.zero_le _, rfl, Lib.hid (by simp [effB]), HO2.out, HB12.out, HA2.out, Lib.hid (fun bb oo h1 h2 h3 => ?_)⟩
        have := own_lt HO3.out (H2lt.out bb oo h1 h2)
        exact this h3
      case round =>
        obtain ⟨n, q, hn, rfl, hq, ho, hb, har, hdis⟩ := hrel
        have hql : q.length ≤ 1099511627775 ∨ n = lb.length := by
          have h1 := effA_len b la
          have h2 := effB_len a (lb.take n)
          rw [List.length_take, Nat.min_eq_left hn] at h2
          rw [hq.out, List.length_append]; omega
        obtain ⟨S2, sc2, rfl, _⟩ := own_arr ho
        have HO := Lib.hid ho
        have HBr := Lib.hid hb
        have HAr := Lib.hid har
        clear ho hb har
        by_cases hlt : n < lb.length
        · obtain ⟨bl, o, rfl, hbz, d0, d1, d2, d3⟩ := HAr.out.wr n hlt
          have hW : Below wr.heap.size wr (wr.alloc (.cells #[I lb[n].k.kind, I lb[n].k.a, I lb[n].k.b, .string lb[n].v] 100)) := (Below.refl _ _).alloc (Nat.le_refl _) _
          have hga : GraphAt (wr.alloc (.cells #[I lb[n].k.kind, I lb[n].k.a, I lb[n].k.b, .string lb[n].v] 100)) ga ra a := ((HA.out.below HB1.out).below HBr.out).below hW
          have hc := gget_c ga ra a lb[n].k _ hga
          have c0 : (wr.alloc (.cells #[I lb[n].k.kind, I lb[n].k.a, I lb[n].k.b, .string lb[n].v] 100)).cell? ⟨wr.heap.size, 0, none⟩ = some (I lb[n].k.kind) := by simp
          have c1 : (wr.alloc (.cells #[I lb[n].k.kind, I lb[n].k.a, I lb[n].k.b, .string lb[n].v] 100)).cell? ⟨wr.heap.size, 1, none⟩ = some (I lb[n].k.a) := by simp
          have c2 : (wr.alloc (.cells #[I lb[n].k.kind, I lb[n].k.a, I lb[n].k.b, .string lb[n].v] 100)).cell? ⟨wr.heap.size, 2, none⟩ = some (I lb[n].k.b) := by simp
          have c3 : (wr.alloc (.cells #[I lb[n].k.kind, I lb[n].k.a, I lb[n].k.b, .string lb[n].v] 100)).cell? ⟨wr.heap.size, 3, none⟩ = some (.string lb[n].v) := by simp
          have hql' : q.length ≤ 1099511627775 := hql.elim id (fun h => by omega)
          have HO1 := Lib.hid (own_below HO.out hW)
          have HW := Lib.hid hW
          have hE := Lib.hid (effB_take a lb n hlt)
          have hz : w1.heap.size ≤ wr.heap.size := HBr.out.size
          clear hga hW
          by_cases hx : mget a lb[n].k = emp
          · obtain ⟨e1, e2, e3⟩ := isEmpty_t hx
            have HX := Lib.hid hx
            clear hx
            go_wp2_with (first
              | (go_at_call 65; refine hc.mono ?_; rintro e w4 ⟨rfl, hb4⟩; replace c0 := cell_keep hb4 c0; replace c1 := cell_keep hb4 c1; replace c2 := cell_keep hb4 c2; replace c3 := cell_keep hb4 c3; have HB4 := Lib.hid hb4; clear hb4)
              | (at_builtin; refine app1d w1.heap.size rfl _ _ 28 100 _ 4 40 rfl Tryz.underlying28 info100 rfl (by decide) (by decide) (own_below HO1.out HB4.out) [I lb[n].k.kind, I lb[n].k.a, I lb[n].k.b, .string lb[n].v] rfl _ rfl rfl (wr_one lb[n]) rfl (Nat.le_trans hz (Nat.le_trans HW.out.size HB4.out.size)) (by omega) ?_; intro v1 w5 hown5 hb5 hgr5 hat5; have HT5 := Lib.hid hat5; clear hat5; have HO5 := Lib.hid hown5; clear hown5; have HB5 := Lib.hid hb5; clear hb5; have HG5 := Lib.hid hgr5; clear hgr5))
            go_roundw
            case rel =>
              refine ⟨n + 1, q ++ [lb[n]], by omega, by go_num, Lib.hid ?_, own_cast HO5.out (by simp) (by simp; rfl), ?_, ?_, ?_⟩
              · rw [hE.out, if_pos HX.out, ← List.append_assoc, ← hq.out]
              · exact (below_then HBr.out hz (below_then HW.out HW.out.size HB4.out)).trans HB5.out
              · exact arr_grown ((HAr.out.below HW.out).below HB4.out) HG5.out (hdis.out _ _ rfl (fun h => by subst h; simp at hlt))
              · refine Lib.hid (fun b' o' h1 h2 h3 => ?_)
                injection h1 with h1; injection h1 with h1 h1'; subst h1
                rcases HT5.out with h | ⟨k, hk, hkl⟩
                · exact hdis.out _ _ rfl h2 (h ▸ h3)
                · rw [h3] at hk; injection hk with hk; subst hk
                  have := HW.out.size; have := HB4.out.size; omega
            case measure => simp [intOf]; omega
          · obtain ⟨e1, e2⟩ := isEmpty_f hx
            have HX := Lib.hid hx
            clear hx
            go_wp2_with (go_at_call 65; refine hc.mono ?_; rintro e w4 ⟨rfl, hb4⟩; have HB4 := Lib.hid hb4; clear hb4)
            go_roundw
            case rel =>
              refine ⟨n + 1, q, by omega, by go_num, Lib.hid ?_, ?_, below_then HBr.out hz (below_then HW.out HW.out.size HB4.out), (HAr.out.below HW.out).below HB4.out, hdis⟩
              · rw [hE.out, if_neg HX.out, List.append_nil]; exact hq.out
              · exact own_below HO1.out HB4.out
            case measure => simp [intOf]; omega
        · obtain rfl : n = lb.length := by omega
          rw [List.take_length] at hq
          have hEl2 := effB_len a lb
          have hso := sortW_c 66 _ _ w1.heap.size wr (fun args w => by kernel_rfl) wcmp66_c HO.out (by rw [hq.out, List.length_append]; omega)
          go_wp2_with (go_at_call 58; refine hso.mono ?_; rintro e w3 ⟨rfl, l', hl1, hl2, hl3, hl4⟩; have H1 := Lib.hid hl1; have H2 := Lib.hid hl2; have H3 := Lib.hid hl3; have H4 := Lib.hid hl4; clear hl1 hl2 hl3 hl4)
          go_ret
          exact ⟨l', _, ⟨la, lb, HL1.out, HL2.out, by rw [← hq.out]; exact H1.out, H2.out⟩, rfl, own_mono H3.out HB1.out.size, (below_then HB1.out HB1.out.size HBr.out).grown H4.out (Nat.le_trans HB1.out.size HBr.out.size) (fun k hk => Nat.le_trans HB1.out.size (own_base HO.out k hk))⟩
end Go.Proofs.YtabdldfigjkfaaaGreatDoor
