import Derived.Test.YtabdldfigjkfaaaGreatDoorProg
import Derived.WalkKit
import Derived.WalkSpells
import Derived.WalkLawsBesides
import Derived.KernelRfl
import Derived.RowKit3
import Derived.Deep.QuietTactic
import Derived.BigQuiet
import Derived.Outline
import Derived.Deep.LoopGhost
import Derived.Laws.StructEq
import Derived.StillTailTactics
import Derived.Deep.RegionHeld3
import Derived.Deep.RegionWith
import Derived.Lib.Hide
import Derived.Maps.AppendAt
import Derived.Handy
import Derived.Deep.DeepCutAuto
import Derived.Deep.CutBlock
import Derived.Deep.AppendLies
namespace Go.Proofs.YtabdldfigjkfaaaGreatDoor
open Go Go.RowKit

/-! Plain data: what the program's values are. -/
abbrev Str := ByteArray
def emp : Str := ⟨#[]⟩
structure Key where
  kind : Int
  a : Int
  b : Int
  deriving DecidableEq, Inhabited
structure Wr where
  k : Key
  v : Str
  deriving DecidableEq, Inhabited
structure Val where
  t : Int
  n : Int
  s : Str
  deriving DecidableEq, Inhabited
structure Ent where
  v : Val
  id : Int
  deriving DecidableEq, Inhabited
structure Opr where
  kind : Int
  a : Int
  b : Int
  k : Int
  v : Val
  w : Val
  deriving DecidableEq, Inhabited
abbrev I (n : Int) : Value := .int .i64 n
def Key.cs (k : Key) : List Value := [I k.kind, I k.a, I k.b]
def Wr.cs (x : Wr) : List Value := [I x.k.kind, I x.k.a, I x.k.b, .string x.v]
def Val.cs (v : Val) : List Value := [I v.t, I v.n, .string v.s]
def Ent.cs (e : Ent) : List Value := [I e.v.t, I e.v.n, .string e.v.s, I e.id]
def Opr.cs (o : Opr) : List Value := [I o.kind, I o.a, I o.b, I o.k, I o.v.t, I o.v.n, .string o.v.s, I o.w.t, I o.w.n, .string o.w.s]
abbrev Key.val (k : Key) : Value := .agg #[I k.kind, I k.a, I k.b]
abbrev Wr.val (x : Wr) : Value := .agg #[I x.k.kind, I x.k.a, I x.k.b, .string x.v]
abbrev Val.val (v : Val) : Value := .agg #[I v.t, I v.n, .string v.s]
abbrev Ent.val (e : Ent) : Value := .agg #[I e.v.t, I e.v.n, .string e.v.s, I e.id]
abbrev Opr.val (o : Opr) : Value := .agg #[I o.kind, I o.a, I o.b, I o.k, I o.v.t, I o.v.n, .string o.v.s, I o.w.t, I o.w.n, .string o.w.s]

/-! A slice that is read: n elements, their cells one behind the other. -/
def Arr (w : World) (A : Option Addr) (cs : List Value) : Prop :=
  cs ≠ [] → ∃ b o, A = some ⟨b, o, none⟩ ∧ ∀ j (h : j < cs.length), w.cell? ⟨b, o + j, none⟩ = some cs[j]

theorem Arr.nil (w : World) (A : Option Addr) : Arr w A [] := fun h => (h rfl).elim

theorem Arr.below {w w' : World} {A : Option Addr} {cs : List Value} (h : Arr w A cs) (hb : Below w.heap.size w w') : Arr w' A cs := fun hne => by
  obtain ⟨b, o, rfl, hc⟩ := h hne
  exact ⟨b, o, rfl, fun j hj => (hb.cell (World.block_lt_of_cell? w _ (hc j hj))).trans (hc j hj)⟩

theorem flat_len {α : Type} (f : α → List Value) (k : Nat) (hk : ∀ x, (f x).length = k) (l : List α) : (l.flatMap f).length = l.length * k := by
  induction l with
  | nil => simp
  | cons x l ih => simp [ih, hk, Nat.add_mul, Nat.add_comm]

theorem flat_get {α : Type} (f : α → List Value) (k : Nat) (hk : ∀ x, (f x).length = k) (l : List α) (i : Nat) (h : i < l.length) (j : Nat) (hj : j < k) :
    (l.flatMap f)[i * k + j]? = (f l[i])[j]? := by
  induction l generalizing i with
  | nil => simp at h
  | cons x l ih =>
    cases i with
    | zero => simp [List.getElem?_append_left, hk, hj]
    | succ i =>
      simp only [List.flatMap_cons, List.getElem_cons_succ]
      rw [List.getElem?_append_right (by rw [hk, Nat.succ_mul]; omega), hk]
      rw [show (i + 1) * k + j - k = i * k + j by rw [Nat.succ_mul]; omega]
      exact ih i (by simpa using h)

/-- The cells of one element of a slice that is read. -/
theorem Arr.at_ {α : Type} {f : α → List Value} {k : Nat} (hk : ∀ x, (f x).length = k) {w : World} {A : Option Addr} {l : List α} (h : Arr w A (l.flatMap f)) (h0 : 0 < k) (i : Nat) (hi : i < l.length) :
    ∃ b o, A = some ⟨b, o, none⟩ ∧ b < w.heap.size ∧ ∀ j (_ : j < k), w.cell? ⟨b, o + (i * k + j), none⟩ = (f l[i])[j]? := by
  have hlen := flat_len f k hk l
  have hlt : ∀ j, j < k → i * k + j < (l.flatMap f).length := fun j hj => by
    rw [hlen]
    have : (i + 1) * k ≤ l.length * k := Nat.mul_le_mul_right _ hi
    rw [Nat.succ_mul] at this; omega
  have hne : l.flatMap f ≠ [] := by
    intro he; have := hlt 0 h0; rw [he] at this; simp at this
  obtain ⟨b, o, rfl, hc⟩ := h hne
  refine ⟨b, o, rfl, World.block_lt_of_cell? w _ (hc _ (hlt 0 h0)), fun j hj => ?_⟩
  rw [hc _ (hlt j hj), ← flat_get f k hk l i hi j hj]
  exact (List.getElem?_eq_getElem (hlt j hj)).symm

theorem Arr.wr {w : World} {A : Option Addr} {l : List Wr} (h : Arr w A (l.flatMap Wr.cs)) (i : Nat) (hi : i < l.length) :
    ∃ b o, A = some ⟨b, o, none⟩ ∧ b < w.heap.size ∧ w.cell? ⟨b, o + i * 4, none⟩ = some (I l[i].k.kind) ∧ w.cell? ⟨b, o + i * 4 + 1, none⟩ = some (I l[i].k.a)
      ∧ w.cell? ⟨b, o + i * 4 + 2, none⟩ = some (I l[i].k.b) ∧ w.cell? ⟨b, o + i * 4 + 3, none⟩ = some (.string l[i].v) := by
  obtain ⟨b, o, rfl, hb, hc⟩ := h.at_ (k := 4) (fun _ => rfl) (by omega) i hi
  refine ⟨b, o, rfl, hb, ?_, ?_, ?_, ?_⟩
  · simpa [Wr.cs] using hc 0 (by omega)
  · simpa [Wr.cs, Nat.add_assoc] using hc 1 (by omega)
  · simpa [Wr.cs, Nat.add_assoc] using hc 2 (by omega)
  · simpa [Wr.cs, Nat.add_assoc] using hc 3 (by omega)

theorem own_base {w : World} {base : Nat} {e : TypeId} {size n : Nat} {v : Value} {xs : List Value} (h : w.ownsRow base e size v n xs) (k : Nat) (hk : v.ownBlock = some k) : base ≤ k := (h.lt k hk).1
theorem own_below {w w1 : World} {base : Nat} {e : TypeId} {size n : Nat} {v : Value} {xs : List Value} (h : w.ownsRow base e size v n xs) (hb : Below w.heap.size w w1) : w1.ownsRow base e size v n xs :=
  h.kept (row := none) ⟨hb.os, hb.tape, hb.output, hb.size, fun i hi _ => hb.block i hi⟩ (by cases v.ownBlock <;> simp)

theorem _root_.Go.RowKit.Below.drewN {B : Nat} {a w : World} (h : Below B a w) (n : Nat) : Below B a (w.drewN n) := ⟨h.os, h.tape, h.output, h.size, h.block⟩
theorem cell_keep {W w1 : World} (hb : Below W.heap.size W w1) {a : Addr} {v : Value} (h : W.cell? a = some v) : w1.cell? a = some v := (hb.cell (World.block_lt_of_cell? W a h)).trans h
theorem cell_keepB {B : Nat} {W w1 : World} (hb : Below B W w1) {a : Addr} {v : Value} (hB : a.block < B) (h : W.cell? a = some v) : w1.cell? a = some v := (hb.cell hB).trans h
theorem below_then {B : Nat} {w w1 w2 : World} (h : Below B w w1) (hB : B ≤ w1.heap.size) (k : Below w1.heap.size w1 w2) : Below B w w2 := h.trans (k.mono hB)
theorem flat_take {α : Type} (f : α → List Value) (l : List α) (n : Nat) (h : n < l.length) : (l.take n).flatMap f ++ f l[n] = (l.take (n + 1)).flatMap f := by
  rw [List.take_succ_eq_append_getElem h, List.flatMap_append]; simp
theorem flat_snoc {α : Type} (f : α → List Value) (l : List α) (x : α) : l.flatMap f ++ f x = (l ++ [x]).flatMap f := by simp
theorem isEmpty_iff (v : Str) : v.toList.isEmpty = decide (v = emp) := by
  rw [ByteArray.toList_eq]
  obtain ⟨⟨x⟩⟩ := v
  cases x with
  | nil => rfl
  | cons a x =>
    have : ¬ ((⟨⟨a :: x⟩⟩ : ByteArray) = emp) := fun e => by unfold emp at e; injection e with e; injection e with e; cases e
    rw [decide_eq_false this]; rfl
theorem isEmpty_t {v : Str} (h : v = emp) : v.toList = [] ∧ v.toList.isEmpty = true ∧ (!v.toList.isEmpty) = false := by
  have : v.toList.isEmpty = true := by rw [isEmpty_iff]; exact decide_eq_true h
  exact ⟨List.isEmpty_iff.1 this, this, by rw [this]; rfl⟩
theorem isEmpty_f {v : Str} (h : v ≠ emp) : v.toList.isEmpty = false ∧ (!v.toList.isEmpty) = true := by
  have : v.toList.isEmpty = false := by rw [isEmpty_iff]; exact decide_eq_false h
  exact ⟨this, by rw [this]; rfl⟩
theorem own_mono {w : World} {base base' : Nat} {e : TypeId} {size : Nat} {v : Value} {n : Nat} {xs : List Value} (h : w.ownsRow base e size v n xs) (hb : base' ≤ base) : w.ownsRow base' e size v n xs := by
  obtain ⟨h1, h2⟩ := h
  refine ⟨h1, ?_⟩
  rcases h2 with h2 | ⟨g, cap, cur, hv, hg, r⟩
  · exact .inl h2
  · exact .inr ⟨g, cap, cur, hv, Nat.le_trans hb hg, r⟩
theorem own_drewN {w : World} {base : Nat} {e : TypeId} {size : Nat} {v : Value} {n : Nat} {xs : List Value} (h : w.ownsRow base e size v n xs) (q : Nat) : (w.drewN q).ownsRow base e size v n xs := h
theorem own_cast {w : World} {base : Nat} {e : TypeId} {size n n' : Nat} {v : Value} {xs ys : List Value} (h : w.ownsRow base e size v n xs) (hn : n = n') (hx : xs = ys) : w.ownsRow base e size v n' ys := by subst hn; subst hx; exact h
theorem own_arr {w : World} {base : Nat} {e : TypeId} {size : Nat} {v : Value} {n : Nat} {xs : List Value} (h : w.ownsRow base e size v n xs) : ∃ A c, v = .slice A n c ∧ Arr w A xs := by
  have h0 := h
  rcases h.2 with ⟨rfl, rfl⟩ | ⟨g, cap, cur, rfl, _⟩
  · have hx : xs = [] := List.eq_nil_of_length_eq_zero (by simpa using h.1)
    subst hx
    exact ⟨none, 0, rfl, Arr.nil _ _⟩
  · refine ⟨_, cap, rfl, fun _ => ⟨g, 0, rfl, fun j hj => ?_⟩⟩
    have hc := h0.cells (g := g) rfl j xs[j] (List.getElem?_eq_getElem hj)
    rwa [show (⟨g, 0, none⟩ : Addr).add j = ⟨g, 0 + j, none⟩ by unfold Addr.add; split <;> simp_all] at hc
theorem below_dthen {B : Nat} {w w1 w2 : World} (h : Below B w w1) (hB : B ≤ w1.heap.size) (k : Below w1.drew.heap.size w1.drew w2) : Below B w w2 := h.drew.trans (k.mono hB)
/-- append(s, x): s a row of the call's own, x one element that was built just ahead. -/
theorem app1 {P : Program} {ops : Array Oper} {rest : List Oper} {o : Oper} {a : Act} {Q : Exit → Act → World → Prop} {W : World} (base : Nat) (hgd : o.guard = none) (s x : Operand) (t e : TypeId) (z : Value) (size bytes : Nat)
    (ho : o.op = .call { callee := .builtin .append, args := #[s, x], argTypes := #[t, t] })
    (ht : P.underlying t = some (.slice e)) (hinfo : (P.info? e).map (fun i => (i.zero, i.size, i.bytes)) = some (some z, size, bytes)) (hz : z.cells.size = size) (hs0 : 0 < size) (hb0 : 0 < bytes)
    {v : Value} {n : Nat} {xs : List Value} (HO : W.ownsRow base e size v n xs) (ys : List Value) (hs : a.eval s = v) (hx : a.eval x = .slice (some ⟨W.heap.size, 0, none⟩) 1 1) (h1 : ∀ y ∈ ys, y.oneCell' = true) (hy : ys.length = size)
    (hbase : base ≤ W.heap.size) (hl : (n + 1) * bytes ≤ 140737488355328)
    (h : ∀ v1 w1, w1.ownsRow base e size v1 (n + 1) (xs ++ ys) → Below base W w1 → W.grownBy w1 v.ownBlock → wpList P ops Q rest (a.put o.dst v1) w1) :
    wpList P ops Q (o :: rest) a (W.alloc (.cells ys.toArray e)) := by
  obtain ⟨i0, hi, hzz⟩ := Option.map_eq_some_iff.1 hinfo
  simp only [Prod.mk.injEq] at hzz
  obtain ⟨hz0, hz1, hz2⟩ := hzz
  have hlen : n + 1 ≤ 140737488355328 := Nat.le_trans (Nat.le_mul_of_pos_right _ hb0) hl
  refine wpList_append_own_at (W.alloc (.cells ys.toArray e)) hgd s x t ho base e i0 z size bytes ht hi hz0 hz1 hz2 hz hs0 v n xs hs (HO.alloc _) ⟨W.heap.size, 0, none⟩ 1 1 ys hx (by simpa using hy)
    (World.news_of_block (cs := ys.toArray) (t := e) (fr := (0, 0)) (heap_alloc_new W _)) h1 (by simp only [maxLen]; omega) hl (by simp; omega) ?_
  intro v1 w1 hown hg _ _
  exact h v1 w1 hown (((Below.refl base W).alloc hbase _).grown hg (by simp; omega) (own_base HO)) (World.grownBy.trans (World.grownBy_alloc W _ _) hg)
end Go.Proofs.YtabdldfigjkfaaaGreatDoor
