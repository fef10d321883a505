import Derived.Test.YtabdldfigjkfaaaGreatDoorA9
import Derived.Shelf.SlSortCmp.WholeK
import Derived.Shelf.SlSortCmp.NoneTotal
namespace Go.Proofs
open Go.Shelf
def Tryz.sortW_ren : Go.Shelf.Ren := ⟨fun | 6 => 58 | 15 => 112 | 14 => 111 | 28 => 189 | 29 => 190 | 20 => 181 | 21 => 182 | 22 => 183 | 23 => 184 | 24 => 185 | 25 => 186 | 26 => 187 | 27 => 188 | 46 => 230 | 47 => 231 | 48 => 232 | 49 => 233 | 50 => 234 | 57 => 270 | n => n, fun | 22 => 28 | 24 => 100 | 25 => 111 | 3 => 3 | 39 => 160 | 0 => 0 | 53 => 177 | 55 => 232 | 4 => 4 | 46 => 225 | 45 => 224 | 50 => 170 | 5 => 5 | 9 => 9 | 66 => 270 | 70 => 274 | 76 => 309 | 77 => 72 | n => n, fun | n => n⟩
theorem Tryz.sortW : Go.Proofs.SlLaysF0.n6 Tryz.prog Tryz.sortW_ren := {
  mixed := by kernel_rfl
  f6 := ⟨Tryz.f58.name, by decide, Tryz.func58.trans (congrArg some (by kernel_rfl))⟩
  f14 := ⟨Tryz.f111.name, by decide, Tryz.func111.trans (congrArg some (by kernel_rfl))⟩
  f15 := Tryz.func112.trans (congrArg some (by kernel_rfl))
  f20 := ⟨Tryz.f181.name, by decide, Tryz.func181.trans (congrArg some (by kernel_rfl))⟩
  f21 := ⟨Tryz.f182.name, by decide, Tryz.func182.trans (congrArg some (by kernel_rfl))⟩
  f22 := ⟨Tryz.f183.name, by decide, Tryz.func183.trans (congrArg some (by kernel_rfl))⟩
  f23 := ⟨Tryz.f184.name, by decide, Tryz.func184.trans (congrArg some (by kernel_rfl))⟩
  f24 := ⟨Tryz.f185.name, by decide, Tryz.func185.trans (congrArg some (by kernel_rfl))⟩
  f25 := ⟨Tryz.f186.name, by decide, Tryz.func186.trans (congrArg some (by kernel_rfl))⟩
  f26 := ⟨Tryz.f187.name, by decide, Tryz.func187.trans (congrArg some (by kernel_rfl))⟩
  f27 := ⟨Tryz.f188.name, by decide, Tryz.func188.trans (congrArg some (by kernel_rfl))⟩
  f28 := Tryz.func189.trans (congrArg some (by kernel_rfl))
  f29 := Tryz.func190.trans (congrArg some (by kernel_rfl))
  f46 := ⟨Tryz.f230.name, by decide, Tryz.func230.trans (congrArg some (by kernel_rfl))⟩
  f47 := Tryz.func231.trans (congrArg some (by kernel_rfl))
  f48 := Tryz.func232.trans (congrArg some (by kernel_rfl))
  f49 := ⟨Tryz.f233.name, by decide, Tryz.func233.trans (congrArg some (by kernel_rfl))⟩
  f50 := ⟨Tryz.f234.name, by decide, Tryz.func234.trans (congrArg some (by kernel_rfl))⟩
  f57 := ⟨Tryz.f270.name, by decide, Tryz.func270.trans (congrArg some (by kernel_rfl))⟩
  t0 := Tryz.underlying0
  a0 := Tryz.isAgg0
  z0 := Tryz.sizeOf0
  v0 := Tryz.zeroValue0
  t3 := Tryz.underlying3
  a3 := Tryz.isAgg3
  z3 := Tryz.sizeOf3
  v3 := Tryz.zeroValue3
  t4 := Tryz.underlying4
  a4 := Tryz.isAgg4
  z4 := Tryz.sizeOf4
  v4 := Tryz.zeroValue4
  t5 := Tryz.underlying5
  a5 := Tryz.isAgg5
  z5 := Tryz.sizeOf5
  v5 := Tryz.zeroValue5
  t9 := Tryz.underlying9
  a9 := Tryz.isAgg9
  z9 := Tryz.sizeOf9
  v9 := Tryz.zeroValue9
  t22 := Tryz.underlying28
  a22 := Tryz.isAgg28
  z22 := Tryz.sizeOf28
  v22 := Tryz.zeroValue28
  t25 := Tryz.underlying111
  a25 := Tryz.isAgg111
  z25 := Tryz.sizeOf111
  v25 := Tryz.zeroValue111
  t39 := Tryz.underlying160
  a39 := Tryz.isAgg160
  z39 := Tryz.sizeOf160
  v39 := Tryz.zeroValue160
  t45 := Tryz.underlying224
  a45 := Tryz.isAgg224
  z45 := Tryz.sizeOf224
  v45 := Tryz.zeroValue224
  t46 := Tryz.underlying225
  a46 := Tryz.isAgg225
  z46 := Tryz.sizeOf225
  v46 := Tryz.zeroValue225
  t50 := Tryz.underlying170
  a50 := Tryz.isAgg170
  z50 := Tryz.sizeOf170
  v50 := Tryz.zeroValue170
  t53 := Tryz.underlying177
  a53 := Tryz.isAgg177
  z53 := Tryz.sizeOf177
  v53 := Tryz.zeroValue177
  t55 := Tryz.underlying232
  a55 := Tryz.isAgg232
  z55 := Tryz.sizeOf232
  v55 := Tryz.zeroValue232
  t66 := Tryz.underlying270
  a66 := Tryz.isAgg270
  z66 := Tryz.sizeOf270
  v66 := Tryz.zeroValue270
  t70 := Tryz.underlying274
  a70 := Tryz.isAgg274
  z70 := Tryz.sizeOf274
  v70 := Tryz.zeroValue274
  t76 := Tryz.underlying309
  a76 := Tryz.isAgg309
  z76 := Tryz.sizeOf309
  v76 := Tryz.zeroValue309
  t77 := Tryz.underlying72
  a77 := Tryz.isAgg72
  z77 := Tryz.sizeOf72
  v77 := Tryz.zeroValue72 }
end Go.Proofs
namespace Go.Proofs.YtabdldfigjkfaaaGreatDoor
open Go Go.RowKit
open Go.Sort (flatK size_flatK get_flatK putRowK HoldsK)

theorem flatK_toList {α : Type} [Inhabited α] (f : α → List Value) (k : Nat) (hk : ∀ x, (f x).length = k) (h0 : 0 < k) (d : Array α) : (flatK f k d).toList = d.toList.flatMap f := by
  have hl := flat_len f k hk d.toList
  apply List.ext_getElem
  · rw [hl]; simp
  · intro t h1 h2
    have ht : t < d.size * k := by simpa using h1
    have hi : t / k < d.size := (Nat.div_lt_iff_lt_mul h0).2 ht
    have hj : t % k < k := Nat.mod_lt _ h0
    have hd : t / k * k + t % k = t := by rw [Nat.mul_comm]; exact Nat.div_add_mod t k
    have hg := flat_get f k hk d.toList (t / k) (by simpa using hi) (t % k) hj
    rw [hd, List.getElem?_eq_getElem h2] at hg
    have e : (flatK f k d).toList[t] = (f d[t / k]!)[t % k]! := by
      have := get_flatK f k d t ht
      rw [← this]; simp [getElem!_pos, ht]
    rw [e]
    have hh : d[t / k]! = d.toList[t / k]'(by simpa using hi) := by simp [hi, getElem!_pos]
    rw [hh]
    have hj' : t % k < (f (d.toList[t / k]'(by simpa using hi))).length := by rw [hk]; exact hj
    rw [List.getElem?_eq_getElem hj'] at hg
    rw [getElem!_pos (f (d.toList[t / k]'(by simpa using hi))) (t % k) hj']
    exact (Option.some.inj hg).symm
theorem putCells_list (ys : Array Value) (c : Array Value) (h : ys.size ≤ c.size) : (Go.Sort.putCells id 0 ys c).toList.take ys.size = ys.toList ∧ (Go.Sort.putCells id 0 ys c).size = c.size := by
  refine ⟨?_, by simp [Go.Sort.putCells]⟩
  apply List.ext_getElem
  · simp [Go.Sort.putCells]; omega
  · intro i h1 h2
    have hi : i < ys.size := by simpa using h2
    simp [Go.Sort.putCells, hi, getElem!_pos]
/-- What the sort leaves: the row holds the sorted elements, and is owned still. -/
theorem sorted_own {α : Type} [Inhabited α] {f : α → List Value} {k : Nat} (hk : ∀ x, (f x).length = k) (h0 : 0 < k) {w : World} {base : Nat} {e : TypeId} {g n cap : Nat} {l : List α} (h : w.ownsRow base e k (.slice (some ⟨g, 0, none⟩) n cap) n (l.flatMap f)) (_ : l.length = n) (d' : Array α) (hd : d'.size = n) (q : Nat) (os : Array Obj) :
    (sortWorldK f k w g 0 q d' os).ownsRow base e k (.slice (some ⟨g, 0, none⟩) n cap) n (d'.toList.flatMap f) ∧ w.grownBy (sortWorldK f k w g 0 q d' os) (some g) := by
  obtain ⟨h1, h2⟩ := h
  rcases h2 with ⟨h2, _⟩ | ⟨g', cap', cur, hv, hb, hh, hc, hm, hs, ht⟩
  · cases h2
  · injection hv with hv _ hcap
    injection hv with hv
    injection hv with hv _ _
    subst hv; subst hcap
    have hlt : g < w.heap.size := (Array.getElem?_eq_some_iff.1 hh).1
    have hsz : (flatK f k d').size = n * k := by rw [size_flatK, hd]
    have hle : (flatK f k d').size ≤ cur.size := by rw [hsz, hs]; exact Nat.mul_le_mul_right _ hc
    obtain ⟨p1, p2⟩ := putCells_list (flatK f k d') cur hle
    have hheap : (sortWorldK f k w g 0 q d' os).heap[g]? = some (.cells (Go.Sort.putCells id 0 (flatK f k d') cur) e) := by
      unfold sortWorldK putRowK Go.Sort.putRow Go.Sort.mapBlock Go.Sort.grow
      rw [Array.getElem?_append_left (by simpa [Go.Sort.ahead] using hlt)]
      simp [Go.Sort.ahead, Array.getElem?_modify, hh, Go.Sort.onCells]
    refine ⟨⟨?_, .inr ⟨g, cap, _, rfl, hb, hheap, hc, hm, by rw [p2]; exact hs, ?_⟩⟩, ⟨rfl, rfl, rfl, ?_, ?_⟩⟩
    · rw [flat_len f k hk]; simp [hd]
    · rw [hsz] at p1; rw [p1, flatK_toList f k hk h0]
    · unfold sortWorldK putRowK Go.Sort.putRow Go.Sort.mapBlock Go.Sort.grow
      simp [Go.Sort.ahead]
    · intro i hi hne
      have hne' : g ≠ i := fun e => hne (by rw [e])
      unfold sortWorldK putRowK Go.Sort.putRow Go.Sort.mapBlock Go.Sort.grow
      rw [Array.getElem?_append_left (by simpa [Go.Sort.ahead] using hi)]
      simp [Go.Sort.ahead, Array.getElem?_modify, hne']
theorem own_holds {α : Type} [Inhabited α] {f : α → List Value} {k : Nat} (hk : ∀ x, (f x).length = k) (h0 : 0 < k) {w : World} {base : Nat} {e : TypeId} {g n cap : Nat} {l : List α} (h : w.ownsRow base e k (.slice (some ⟨g, 0, none⟩) n cap) n (l.flatMap f)) (hn : l.length = n) : HoldsK f k w g 0 l.toArray := by
  intro j hj
  have hj' : j < n * k := by rw [size_flatK] at hj; simpa [hn] using hj
  have e1 := h.cellAt j hj'
  have e2 := h.frozenAt j
  rw [Nat.zero_add]
  refine ⟨?_, e2⟩
  rw [e1]
  have hl := flatK_toList f k hk h0 l.toArray
  simp only at hl
  rw [← hl]
  have hjj : j < (flatK f k l.toArray).size := by simpa [hn] using hj'
  rw [getElem!_pos (flatK f k l.toArray) j hjj]
  simp

/-- The key's order is a strict one. -/
theorem Key.lt_iff (a b : Key) : a.lt b = true ↔ (a.kind < b.kind ∨ a.kind = b.kind ∧ (a.a < b.a ∨ a.a = b.a ∧ a.b < b.b)) := by
  unfold Key.lt
  by_cases h1 : a.kind = b.kind
  · by_cases h2 : a.a = b.a
    · simp [h1, h2]
    · simp [h1, h2]
  · simp only [h1, ne_eq, not_false_eq_true, if_true, decide_eq_true_eq, false_and, or_false]
def wcmp (x y : Wr) : Int := if x.k.lt y.k then -1 else 1
theorem wcmp_lt (x y : Wr) : ltOf wcmp x y = x.k.lt y.k := by
  unfold ltOf wcmp; cases x.k.lt y.k <;> rfl
theorem Key.lt_f (a b : Key) : a.lt b = false ↔ ¬ (a.kind < b.kind ∨ a.kind = b.kind ∧ (a.a < b.a ∨ a.a = b.a ∧ a.b < b.b)) := by
  rw [← Key.lt_iff]; simp
theorem swoW : Go.Sort.SWO (ltOf wcmp) where
  irrefl x := by rw [wcmp_lt, Key.lt_f]; omega
  trans x y z h1 h2 := by rw [wcmp_lt, Key.lt_iff] at *; omega
  ntrans x y z h1 h2 := by rw [wcmp_lt, Key.lt_f] at *; omega
/-- Ascending keys: no later one is ahead of an earlier one. -/
def Asc (l : List Wr) : Prop := l.Pairwise fun x y => y.k.lt x.k = false
theorem sortW_c (f : Nat) (l : List Wr) (v : Value) (base : Nat) (w : World) (eg : ∀ args w, (callFunc f args).run Tryz.prog w = .ok (.enter f args) w)
    (hcmp : ∀ (x y : Wr) (W : World), Calls Tryz.prog f #[x.val, y.val] W fun e w' => e = .returned (I (wcmp x y)) ∧ Gr W w')
    (h : w.ownsRow base 100 4 v l.length (l.flatMap Wr.cs)) (hl : l.length ≤ 1099511627776) :
    Calls Tryz.prog 58 #[v, .func (.func f) #[] #[]] w fun e w' => e = .returned (.tuple #[]) ∧ ∃ l', l'.Perm l ∧ Asc l' ∧ w'.ownsRow base 100 4 v l'.length (l'.flatMap Wr.cs) ∧ w.grownBy w' v.ownBlock := by
  by_cases h0 : l = []
  · subst h0
    obtain ⟨A, c, rfl⟩ : ∃ A c, v = .slice A 0 c := by
      obtain ⟨A, c, e, _⟩ := own_arr h; exact ⟨A, c, by simpa using e⟩
    refine (AnyF.slices_SortFunc_none Tryz.sortW A c (.func (.func f) #[] #[]) w).mono ?_
    rintro e w' ⟨rfl, rfl⟩
    exact ⟨rfl, [], List.Perm.refl _, List.Pairwise.nil, h, World.grownBy.refl _ _⟩
  · have hpos : 0 < l.length := List.length_pos_iff.2 h0
    obtain ⟨g, cap, rfl, hgl⟩ : ∃ g cap, v = .slice (some ⟨g, 0, none⟩) l.length cap ∧ g < w.heap.size := by
      rcases h.2 with ⟨_, h2⟩ | ⟨g, cap, cur, rfl, _, hh, _⟩
      · omega
      · exact ⟨g, cap, rfl, (Array.getElem?_eq_some_iff.1 hh).1⟩
    have hcon := AnyQ.slices_SortFunc Tryz.sortW 4 Tryz.isAgg100 Tryz.sizeOf100 Wr.cs (fun _ => rfl) (fun x y hy => wr_one x y hy) wcmp swoW f #[] g 0 cap l.toArray w eg (fun m os dk _ x y => (hcmp x y _).mono fun e w' ⟨he, hg⟩ => ⟨he, hg.grow⟩) (own_holds (k := 4) (fun _ => rfl) (by omega) h rfl) hgl (by show l.length < 4611686018427387904; omega)
    refine hcon.mono ?_
    rintro e w' ⟨rfl, d', q, os, hp, hs, rfl⟩
    have hd : d'.size = l.length := by simpa using hp.1
    have hperm : d'.toList.Perm l := by
      have := hp.2.2
      simpa [hd, Array.extract_eq_self_of_le] using this
    obtain ⟨r1, r2⟩ := sorted_own (f := Wr.cs) (fun _ => rfl) (by omega) h rfl d' hd q os
    refine ⟨rfl, d'.toList, hperm, ?_, by rw [Array.length_toList]; exact own_cast r1 hd.symm rfl, r2⟩
    unfold Asc
    rw [List.pairwise_iff_getElem]
    intro i j hi hj hij
    have := hs i j (by omega) hij (by simpa [hd] using hj)
    rw [wcmp_lt] at this
    simpa [getElem!_pos, show i < d'.size by simpa using hi, show j < d'.size by simpa using hj] using this
end Go.Proofs.YtabdldfigjkfaaaGreatDoor
