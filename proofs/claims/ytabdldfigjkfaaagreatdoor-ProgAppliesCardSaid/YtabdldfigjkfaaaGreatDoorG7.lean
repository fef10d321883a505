import Derived.Test.YtabdldfigjkfaaaGreatDoorA0
import Derived.ProofKit
import Derived.Deep.Slices
import Derived.ChangeSame
import Derived.Below
import Derived.OpenShut
namespace Go.Proofs.YtabdldfigjkfaaaGreatDoor
open Go Go.ChangeShapes Go.WideShapes Go.Deep Go.RowKit

/-! Arguments that are slices of cells, or of ops. -/
section
variable {H : Type} {enc : TypeId × Value → H} {w : World} {base : Nat} {spare : Nat → Bool} {held : Bool}
theorem co3 : Tryz.prog.cellsOf 3 = 1 := by kernel_rfl
theorem co2 : Tryz.prog.cellsOf 2 = 1 := by kernel_rfl
theorem co9 : Tryz.prog.cellsOf 9 = 1 := by kernel_rfl
theorem co76 : Tryz.prog.cellsOf 76 = 3 := by kernel_rfl
theorem co24 : Tryz.prog.cellsOf 24 = 3 := by kernel_rfl
theorem co100 : Tryz.prog.cellsOf 100 = 4 := by kernel_rfl
theorem co26 : Tryz.prog.cellsOf 26 = 10 := by kernel_rfl
theorem some_of {α : Type} {xs : List α} {n i : Nat} (h : xs.length = n) (hi : i < n) : ∃ y, xs[i]? = some y := ⟨xs[i]'(by omega), List.getElem?_eq_getElem (by omega)⟩
def inI64 (n : Int) : Prop := (Lit.int .i64 n).wf = true
theorem trod_i {t : TypeId} {fuel : Nat} {cs : List Value} {o : Option (DataW H × List MemPlace)} (ht : Tryz.prog.underlying t = some (.int .i64)) (h : DataW.trod enc Tryz.prog w base spare held fuel t cs = o) (ho : ∃ y, o = some y) : ∃ n, cs = [I n] ∧ inI64 n := by
  obtain ⟨y, rfl⟩ := ho
  obtain ⟨n, h1, _, h2⟩ := DataW.trod_int ht h
  exact ⟨n, h1, h2⟩
set_option maxRecDepth 20000 in
theorem trod_s {fuel : Nat} {cs : List Value} {o : Option (DataW H × List MemPlace)} (h : DataW.trod enc Tryz.prog w base spare held fuel 9 cs = o) (ho : ∃ y, o = some y) : ∃ s : Str, cs = [.string s] := by
  obtain ⟨y, rfl⟩ := ho
  obtain ⟨s, h1, -⟩ := DataW.trod_string Tryz.underlying9 h
  exact ⟨s, h1⟩
theorem three {cs : List Value} (h : cs.length = 3) : ∃ a b c, cs = [a, b, c] := by
  rcases cs with _ | ⟨a, _ | ⟨b, _ | ⟨c, _ | ⟨d, r⟩⟩⟩⟩ <;> simp at h
  exact ⟨a, b, c, rfl⟩
theorem four {cs : List Value} (h : cs.length = 4) : ∃ a b c d, cs = [a, b, c, d] := by
  rcases cs with _ | ⟨a, _ | ⟨b, _ | ⟨c, _ | ⟨d, _ | ⟨e, r⟩⟩⟩⟩⟩ <;> simp at h
  exact ⟨a, b, c, d, rfl⟩
set_option maxRecDepth 20000 in
theorem trod76 {fuel : Nat} {cs : List Value} {x : DataW H × List MemPlace} (h : DataW.trod enc Tryz.prog w base spare held fuel 76 cs = some x) : ∃ k : Key, cs = k.cs := by
  obtain ⟨xs, n, -, -, hl, hlen, hf⟩ := DataW.trod_struct Tryz.underlying76 h
  rw [co76] at hl
  obtain ⟨c0, c1, c2, rfl⟩ := three hl
  have h0 : DataW.trod enc Tryz.prog w base spare held n 3 (([c0, c1, c2].drop 0).take (Tryz.prog.cellsOf 3)) = xs[0]? := hf 0 _ rfl
  rw [co3] at h0
  change DataW.trod enc Tryz.prog w base spare held n 3 [c0] = xs[0]? at h0
  have h1 : DataW.trod enc Tryz.prog w base spare held n 3 (([c0, c1, c2].drop 1).take (Tryz.prog.cellsOf 3)) = xs[1]? := hf 1 _ rfl
  rw [co3] at h1
  change DataW.trod enc Tryz.prog w base spare held n 3 [c1] = xs[1]? at h1
  have h2 : DataW.trod enc Tryz.prog w base spare held n 3 (([c0, c1, c2].drop 2).take (Tryz.prog.cellsOf 3)) = xs[2]? := hf 2 _ rfl
  rw [co3] at h2
  change DataW.trod enc Tryz.prog w base spare held n 3 [c2] = xs[2]? at h2
  obtain ⟨a, ha, -⟩ := trod_i Tryz.underlying3 h0 (some_of hlen (by decide))
  obtain ⟨b, hb, -⟩ := trod_i Tryz.underlying3 h1 (some_of hlen (by decide))
  obtain ⟨c, hc, -⟩ := trod_i Tryz.underlying3 h2 (some_of hlen (by decide))
  simp only [List.cons.injEq, and_true] at ha hb hc
  subst ha; subst hb; subst hc
  exact ⟨⟨a, b, c⟩, rfl⟩
set_option maxRecDepth 20000 in
theorem trod100 {fuel : Nat} {cs : List Value} {x : DataW H × List MemPlace} (h : DataW.trod enc Tryz.prog w base spare held fuel 100 cs = some x) : ∃ y : Wr, cs = y.cs := by
  obtain ⟨xs, n, -, -, hl, hlen, hf⟩ := DataW.trod_struct Tryz.underlying100 h
  rw [co100] at hl
  obtain ⟨c0, c1, c2, c3, rfl⟩ := four hl
  have h0 : DataW.trod enc Tryz.prog w base spare held n 76 (([c0, c1, c2, c3].drop 0).take (Tryz.prog.cellsOf 76)) = xs[0]? := hf 0 _ rfl
  rw [co76] at h0
  change DataW.trod enc Tryz.prog w base spare held n 76 [c0, c1, c2] = xs[0]? at h0
  have h1 : DataW.trod enc Tryz.prog w base spare held n 9 (([c0, c1, c2, c3].drop 3).take (Tryz.prog.cellsOf 9)) = xs[1]? := hf 1 _ rfl
  rw [co9] at h1
  change DataW.trod enc Tryz.prog w base spare held n 9 [c3] = xs[1]? at h1
  obtain ⟨y, hy⟩ := some_of (i := 0) hlen (by decide)
  rw [hy] at h0
  obtain ⟨k, hk⟩ := trod76 h0
  obtain ⟨s, hs⟩ := trod_s h1 (some_of hlen (by decide))
  simp only [Key.cs, List.cons.injEq, and_true] at hk hs
  obtain ⟨rfl, rfl, rfl⟩ := hk
  subst hs
  exact ⟨⟨k, s⟩, rfl⟩
/-- A list of elements out of a slice's cells. -/
theorem arr_choose {α : Type} {f : α → List Value} {k : Nat} (h0 : 0 < k) (hk : ∀ x, (f x).length = k) (w : World) (b o len : Nat) (h : ∀ i, i < len → ∃ x, ∀ j, j < k → w.cell? ⟨b, o + (i * k + j), none⟩ = (f x)[j]?) :
    ∃ l : List α, l.length = len ∧ Arr w (some ⟨b, o, none⟩) (l.flatMap f) := by
  have : ∀ n, n ≤ len → ∃ l : List α, l.length = n ∧ ∀ i (hi : i < l.length) j, j < k → w.cell? ⟨b, o + (i * k + j), none⟩ = (f l[i])[j]? := by
    intro n
    induction n with
    | zero => intro _; exact ⟨[], rfl, fun i hi => by simp at hi⟩
    | succ n ih =>
      intro hn
      obtain ⟨l, hl, hc⟩ := ih (by omega)
      obtain ⟨x, hx⟩ := h n (by omega)
      refine ⟨l ++ [x], by simp [hl], fun i hi j hj => ?_⟩
      by_cases e : i < l.length
      · rw [List.getElem_append_left e]; exact hc i e j hj
      · have : i = l.length := by simp at hi; omega
        subst this
        rw [List.getElem_append_right (Nat.le_refl _)]
        simp only [Nat.sub_self, List.getElem_cons_zero]
        rw [hl]; exact hx j hj
  obtain ⟨l, hl, hc⟩ := this len (Nat.le_refl _)
  refine ⟨l, hl, fun _ => ⟨b, o, rfl, fun j hj => ?_⟩⟩
  have hlen := flat_len f k hk l
  have hq : j / k < l.length := by rw [hlen] at hj; exact Nat.div_lt_of_lt_mul (by rwa [Nat.mul_comm] at hj)
  have hr : j % k < k := Nat.mod_lt _ h0
  have e : j = j / k * k + j % k := by rw [Nat.mul_comm]; exact (Nat.div_add_mod j k).symm
  have h1 := hc (j / k) hq (j % k) hr
  rw [← flat_get f k hk l (j / k) hq (j % k) hr, ← e] at h1
  rw [h1]; exact List.getElem?_eq_getElem hj
theorem addr_at {a : Addr} {b o i : Nat} (h : a = ⟨b, o, none⟩) : a.add i = ⟨b, o + i, none⟩ := by
  subst h; unfold Addr.add; split
  · subst_vars; rfl
  · rfl
/-- A slice of elements of k cells each, read. -/
theorem open_arr {α : Type} {f : α → List Value} {k e : Nat} (h0 : 0 < k) (hk : ∀ x, (f x).length = k) {t : TypeId} {fuel : Nat} {cs : List Value} {x : DataW H × List MemPlace} (ht : Tryz.prog.underlying t = some (.slice e)) (hc : Tryz.prog.cellsOf e = k)
    (he : ∀ n cs y, DataW.trod enc Tryz.prog w base spare held n e cs = some y → ∃ z : α, cs = f z) (h : DataW.trod enc Tryz.prog w base spare held fuel t cs = some x) :
    ∃ (l : List α) (A : Option Addr) (c : Nat), cs = [.slice A l.length c] ∧ Arr w A (l.flatMap f) := by
  rcases open_slice ht h with ⟨rfl, -⟩ | ⟨a, len, cap, m, n, D, Pl, rfl, -, hl, -, hm, -, hi⟩
  · exact ⟨[], none, 0, rfl, Arr.nil _ _⟩
  · have hlm : len ≤ m := by rw [hm]; split <;> omega
    by_cases hz : len = 0
    · subst hz; exact ⟨[], some a, cap, rfl, Arr.nil _ _⟩
    · have hcell : ∀ i, i < len → ∃ z : α, ∀ j, j < k → w.cell? ((a.add (i * k)).add j) = (f z)[j]? := fun i hi' => by
        obtain ⟨cs', h1, h2⟩ := hi i (by omega)
        rw [hc] at h1
        obtain ⟨-, hcl, hat⟩ := World.cells?_some h1
        obtain ⟨z, rfl⟩ := he _ _ _ h2
        exact ⟨z, hat⟩
      have hsp : a.spot = none := by
        obtain ⟨z, hz'⟩ := hcell 0 (by omega)
        have h1 := hz' 0 h0
        rw [Nat.zero_mul] at h1
        have e2 : (f z)[0]? = some ((f z)[0]'(by rw [hk]; exact h0)) := List.getElem?_eq_getElem _
        rw [e2] at h1
        have := World.cell?_spot h1
        simpa [Addr.add] using this
      have ha : a = ⟨a.block, a.off, none⟩ := by obtain ⟨b, o, s⟩ := a; simp at hsp; subst hsp; rfl
      obtain ⟨l, hll, harr⟩ := arr_choose h0 hk w a.block a.off len fun i hi' => by
        obtain ⟨z, hz'⟩ := hcell i hi'
        refine ⟨z, fun j hj => ?_⟩
        rw [← hz' j hj, Go.Deep.add_add, addr_at ha]
      exact ⟨l, some a, cap, by rw [hll], by rw [ha]; exact harr⟩
end
set_option maxRecDepth 20000 in
theorem open_writes {H : Type} {enc : TypeId × Value → H} {W : World} {b0 : Nat} {r : Reach} {v : Value} {d : DataW H} {p : List MemPlace} (hv : Value.okWide Tryz.prog W r b0 28 v) (h : DataW.Trod enc Tryz.prog W 0 (fun _ => true) true 28 v d p) :
    ∃ (l : List Wr) (A : Option Addr) (c : Nat), v = .slice A l.length c ∧ Arr W A (l.flatMap Wr.cs) := by
  obtain ⟨fuel, hf⟩ := h
  obtain ⟨l, A, c, hc, ha⟩ := open_arr (f := Wr.cs) (k := 4) (by decide) (fun _ => rfl) Tryz.underlying28 co100 (fun n cs y hy => trod100 hy) hf
  obtain ⟨a, len, cap, rfl⟩ := okWide_slice Tryz.underlying28 hv
  have he : Value.slice a len cap = .slice A l.length c := by simpa [Value.cells] using hc
  exact ⟨l, A, c, he, ha⟩
end Go.Proofs.YtabdldfigjkfaaaGreatDoor
