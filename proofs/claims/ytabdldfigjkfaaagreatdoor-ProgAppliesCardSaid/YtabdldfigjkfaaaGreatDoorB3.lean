import Derived.Test.YtabdldfigjkfaaaGreatDoorB2
namespace Go.Proofs.YtabdldfigjkfaaaGreatDoor
open Go Go.RowKit

/-- 'app1', the block's number as it stands. -/
theorem app1b {P : Program} {ops : Array Oper} {rest : List Oper} {o : Oper} {a : Act} {Q : Exit → Act → World → Prop} {W : World} (base : Nat) (hgd : o.guard = none) (s x : Operand) (t e : TypeId) (z : Value) (size bytes : Nat)
    (ho : o.op = .call { callee := .builtin .append, args := #[s, x], argTypes := #[t, t] })
    (ht : P.underlying t = some (.slice e)) (hinfo : (P.info? e).map (fun i => (i.zero, i.size, i.bytes)) = some (some z, size, bytes)) (hz : z.cells.size = size) (hs0 : 0 < size) (hb0 : 0 < bytes)
    {v : Value} {n : Nat} {xs : List Value} (HO : W.ownsRow base e size v n xs) (ys : List Value) (hs : a.eval s = v) (b : Nat) (hx : a.eval x = .slice (some ⟨b, 0, none⟩) 1 1) (hb : b = W.heap.size) (h1 : ∀ y ∈ ys, y.oneCell' = true) (hy : ys.length = size)
    (hbase : base ≤ W.heap.size) (hl : (n + 1) * bytes ≤ 140737488355328)
    (h : ∀ v1 w1, w1.ownsRow base e size v1 (n + 1) (xs ++ ys) → Below base W w1 → W.grownBy w1 v.ownBlock → wpList P ops Q rest (a.put o.dst v1) w1) :
    wpList P ops Q (o :: rest) a (W.alloc (.cells ys.toArray e)) := by
  subst hb
  exact app1 base hgd s x t e z size bytes ho ht hinfo hz hs0 hb0 HO ys hs hx h1 hy hbase hl h
def wrOf (p : Key × Str) : Wr := ⟨p.1, p.2⟩
/-- l is all of m, in order. -/
def IsAll (m : KM) (l : List Wr) : Prop := l.Perm (m.map wrOf) ∧ Asc l
section
variable {ops : Array Oper} {rest : List Oper} {o : Oper} {a : Act} {Q : Exit → Act → World → Prop} {w : World}
theorem wp_range76 {r : Nat} {m : KM} (h : MapE w r m) (hg : o.guard = none) (x : Operand) (hop : o.op = .range 96 x) (hx : a.eval x = .map (some r))
    (hK : ∀ w', Iter w' w.heap.size r m [] m.length → Gr w w' → wpList Tryz.prog ops Q rest (a.put o.dst (ptr w.heap.size)) w') : wpList Tryz.prog ops Q (o :: rest) a w := by
  refine wpList_plain hg fun K hK' => ?_
  obtain ⟨w', hrun, r1, r2⟩ := Iter.start h
  unfold Oper.wp
  simp [execOp, hop, hx, hrun, Result.andThen]
  exact hK' _ _ (hK w' r2 r1)
theorem wp_next76 {it r : Nat} {m : KM} {out : List (Key × Str)} {n : Nat} (h : Iter w it r m out n) (hg : o.guard = none) (x : Operand) (hop : o.op = .next x false) (hx : a.eval x = ptr it)
    (hDone : out.Perm m → wpList Tryz.prog ops Q rest (a.put o.dst (.tuple #[.bool false])) w)
    (hMore : ∀ (k : Key) (v : Str) w1 n', n = n' + 1 → Iter w1 it r m (out ++ [(k, v)]) n' → w.grownBy w1 (some it) → (Instr.entry (.pointer (some ⟨it, 0, none⟩))).run Tryz.prog w1 = .ok (.tuple #[.agg #[I k.kind, I k.a, I k.b], .string v]) w1 → wpList Tryz.prog ops Q rest (a.put o.dst (.tuple #[.bool true, k.val, .string v])) w1) :
    wpList Tryz.prog ops Q (o :: rest) a w := by
  refine wpList_plain hg fun K hK' => ?_
  unfold Oper.wp
  rcases h.next o.type with ⟨hp, hrun⟩ | ⟨⟨k, v⟩, w1, hrun, hen, ⟨n', hn, hi⟩, hgr⟩
  · simp [execOp, hop, hx, hrun, Result.andThen]
    exact hK' _ _ (hDone hp)
  · simp [execOp, hop, hx, hrun, Result.andThen]
    exact hK' _ _ (hMore k v w1 n' hn hi hgr hen)
end
def slen : Value → Nat
  | .slice _ n _ => n
  | _ => 0
theorem own_slen {w : World} {base : Nat} {e : TypeId} {size : Nat} {v : Value} {n : Nat} {xs : List Value} (h : w.ownsRow base e size v n xs) : slen v = n := by
  obtain ⟨A, c, rfl, _⟩ := own_arr h; rfl
theorem gall_nil (w : World) : Calls Tryz.prog 20 #[.pointer none] w fun e w' => e = .returned (.slice none 0 0) ∧ w' = w := by
  go_enter Tryz.func20, Tryz.ntmps20
  go_wp2
  go_ret
  exact ⟨rfl, rfl⟩

set_option maxRecDepth 20000 in
set_option maxHeartbeats 1000000 in
theorem gall_c (g r : Nat) (m : KM) (w : World) (h : GraphAt w g r m) (hl : m.length ≤ 1099511627776) :
    Calls Tryz.prog 20 #[ptr g] w fun e w' => ∃ l v, IsAll m l ∧ e = .returned v ∧ w'.ownsRow w.heap.size 100 4 v l.length (l.flatMap Wr.cs) ∧ Below w.heap.size w w' := by
  obtain ⟨hc, hm⟩ := h
  have HM := Lib.hid hm; clear hm
  have HC := Lib.hid hc
  go_enter Tryz.func20, Tryz.ntmps20
  go_wp2_with (at_range; refine wp_range76 HM.out rfl _ rfl rfl ?_; intro w0 hi0 hg0; have HI0 := Lib.hid hi0; have HG0 := Lib.hid hg0; clear hi0 hg0)
  go_frame
  go_loopw [3] (fun s wr => ∃ out n, Iter wr w.heap.size r m out n ∧ wr.ownsRow (w.heap.size + 1) 100 4 s out.length ((out.map wrOf).flatMap Wr.cs) ∧ Below w.heap.size w wr ∧ out.length + n = m.length) (fun s wr => m.length - slen s)
  case atStart => exact ⟨[], m.length, HI0.out, World.ownsRow_nil _ _ _ _, HG0.out.below, by simp⟩
  case round =>
    obtain ⟨out, n, hi, ho, hb, hn⟩ := hrel
    have HI := Lib.hid hi
    have HO := Lib.hid ho
    have HBel := Lib.hid hb
    obtain ⟨A, c, rfl, hA⟩ := own_arr ho
    clear hi ho hb hA
    have hmem := HI.out.mem
    have hz : w.heap.size + 1 ≤ wr.heap.size := hmem.1
    go_wp2_with (at_next; refine wp_next76 HI.out rfl _ rfl rfl ?_ ?_)
    · intro hp
      have HP := Lib.hid hp; clear hp
      have hlen : (out.map wrOf).length = out.length := by simp
      have hso := sortW_c 59 (out.map wrOf) (.slice A out.length c) (w.heap.size + 1) wr (fun args w => by kernel_rfl) wcmp59_c (own_cast HO.out hlen.symm rfl) (by rw [hlen]; omega)
      go_wp2_with (go_at_call 58; refine hso.mono ?_; rintro e w2 ⟨rfl, l', hl1, hl2, hl3, hl4⟩; have H1 := Lib.hid hl1; have H2 := Lib.hid hl2; have H3 := Lib.hid hl3; have H4 := Lib.hid hl4; clear hl1 hl2 hl3 hl4)
      go_ret
      exact ⟨l', _, ⟨H1.out.trans (HP.out.map wrOf), H2.out⟩, rfl, own_mono H3.out (Nat.le_succ _), HBel.out.grown H4.out (by omega) (fun k hk => Nat.le_trans (Nat.le_succ _) (own_base HO.out k hk))⟩
    · intro k v w1 n' hn' hi1 hg1 hen
      have HI1 := Lib.hid hi1
      have HG1 := Lib.hid hg1
      have hz1 : w.heap.size + 1 ≤ w1.heap.size := Nat.le_trans hz hg1.size
      have hB1 : Below w.heap.size w w1 := HBel.out.grown hg1 (by omega) (fun k hk => by cases hk; exact Nat.le_refl _)
      have ho1 : w1.ownsRow (w.heap.size + 1) 100 4 (.slice A out.length c) out.length ((out.map wrOf).flatMap Wr.cs) := HO.out.kept hg1 (.inr fun e => by have := own_base HO.out _ e; omega)
      have HB1 := Lib.hid hB1
      have HO1 := Lib.hid ho1
      clear hi1 hg1 hB1 ho1 hmem
      go_wp2_with (at_builtin; refine app1b (w.heap.size + 1) rfl _ _ 28 100 _ 4 40 rfl Tryz.underlying28 info100 rfl (by decide) (by decide) (HO1.out.alloc _) [I k.kind, I k.a, I k.b, .string v] rfl _ rfl (by simp) (wr_one ⟨k, v⟩) rfl (by simp; omega) (by omega) ?_; intro v1 w2 hown2 hb2 hgr2; have HO2 := Lib.hid hown2; clear hown2; have HB2 := Lib.hid hb2; clear hb2; have HG2 := Lib.hid hgr2; clear hgr2)
      go_roundw
      case rel =>
        have hr := HM.out.lt
        have hgb := World.grownBy.trans (World.grownBy_alloc w1 (.cells #[I k.kind, I k.a, I k.b] 76) (Value.slice A out.length c).ownBlock) HG2.out
        refine ⟨out ++ [(k, v)], n', HI1.out.keep _ hgb (fun e => by have := own_base HO.out _ e; omega) (fun e => by have := own_base HO.out _ e; omega), own_cast HO2.out (by simp) (by simp; rfl), ?_, by simp; omega⟩
        exact (HB1.out.alloc HB1.out.size _).trans (HB2.out.mono (by omega))
      case measure =>
        have h2 := own_slen HO2.out
        show m.length - slen v1 < m.length - out.length
        omega
end Go.Proofs.YtabdldfigjkfaaaGreatDoor
