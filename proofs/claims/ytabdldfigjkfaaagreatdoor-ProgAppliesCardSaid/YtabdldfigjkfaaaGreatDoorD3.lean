import Derived.Test.YtabdldfigjkfaaaGreatDoorD2
import Derived.Shelf.Sort.Plain
namespace Go.Proofs
open Go.Shelf
def Tryz.sortI_ren : Go.Shelf.Ren := ⟨fun | 189 => 218 | 125 => 112 | 257 => 261 | 128 => 189 | 129 => 190 | 294 => 277 | 295 => 278 | 296 => 279 | 297 => 280 | 298 => 281 | 299 => 282 | 216 => 283 | 300 => 284 | 301 => 285 | 328 => 295 | 329 => 231 | 330 => 232 | 331 => 296 | 332 => 297 | 215 => 235 | 343 => 304 | n => n, fun | 28 => 32 | 3 => 3 | 46 => 160 | 0 => 0 | 51 => 177 | 53 => 232 | 4 => 4 | 183 => 225 | 182 => 224 | 131 => 170 | 5 => 5 | 9 => 9 | 218 => 270 | 222 => 274 | 228 => 309 | 229 => 72 | n => n, fun | n => n⟩
theorem Tryz.sortI : Go.Proofs.Lays.n189 Tryz.prog Tryz.sortI_ren := {
  mixed := by kernel_rfl
  f125 := Tryz.func112.trans (congrArg some (by kernel_rfl))
  f128 := Tryz.func189.trans (congrArg some (by kernel_rfl))
  f129 := Tryz.func190.trans (congrArg some (by kernel_rfl))
  f189 := Tryz.func218.trans (congrArg some (by kernel_rfl))
  f215 := Tryz.func235.trans (congrArg some (by kernel_rfl))
  f216 := Tryz.func283.trans (congrArg some (by kernel_rfl))
  f257 := Tryz.func261.trans (congrArg some (by kernel_rfl))
  f294 := Tryz.func277.trans (congrArg some (by kernel_rfl))
  f295 := Tryz.func278.trans (congrArg some (by kernel_rfl))
  f296 := Tryz.func279.trans (congrArg some (by kernel_rfl))
  f297 := Tryz.func280.trans (congrArg some (by kernel_rfl))
  f298 := Tryz.func281.trans (congrArg some (by kernel_rfl))
  f299 := Tryz.func282.trans (congrArg some (by kernel_rfl))
  f300 := Tryz.func284.trans (congrArg some (by kernel_rfl))
  f301 := Tryz.func285.trans (congrArg some (by kernel_rfl))
  f328 := Tryz.func295.trans (congrArg some (by kernel_rfl))
  f329 := Tryz.func231.trans (congrArg some (by kernel_rfl))
  f330 := Tryz.func232.trans (congrArg some (by kernel_rfl))
  f331 := Tryz.func296.trans (congrArg some (by kernel_rfl))
  f332 := Tryz.func297.trans (congrArg some (by kernel_rfl))
  f343 := Tryz.func304.trans (congrArg some (by kernel_rfl))
  t0 := Tryz.underlying0
  a0 := Tryz.isAgg0
  z0 := Tryz.sizeOf0
  v0 := Tryz.zeroValue0
  t3 := Tryz.underlying3
  a3 := Tryz.isAgg3
  z3 := Tryz.sizeOf3
  v3 := Tryz.zeroValue3
  t4 := Tryz.underlying4
  a4 := Tryz.isAgg4
  z4 := Tryz.sizeOf4
  v4 := Tryz.zeroValue4
  t5 := Tryz.underlying5
  a5 := Tryz.isAgg5
  z5 := Tryz.sizeOf5
  v5 := Tryz.zeroValue5
  t9 := Tryz.underlying9
  a9 := Tryz.isAgg9
  z9 := Tryz.sizeOf9
  v9 := Tryz.zeroValue9
  t28 := Tryz.underlying32
  a28 := Tryz.isAgg32
  z28 := Tryz.sizeOf32
  v28 := Tryz.zeroValue32
  t46 := Tryz.underlying160
  a46 := Tryz.isAgg160
  z46 := Tryz.sizeOf160
  v46 := Tryz.zeroValue160
  t51 := Tryz.underlying177
  a51 := Tryz.isAgg177
  z51 := Tryz.sizeOf177
  v51 := Tryz.zeroValue177
  t53 := Tryz.underlying232
  a53 := Tryz.isAgg232
  z53 := Tryz.sizeOf232
  v53 := Tryz.zeroValue232
  t131 := Tryz.underlying170
  a131 := Tryz.isAgg170
  z131 := Tryz.sizeOf170
  v131 := Tryz.zeroValue170
  t182 := Tryz.underlying224
  a182 := Tryz.isAgg224
  z182 := Tryz.sizeOf224
  v182 := Tryz.zeroValue224
  t183 := Tryz.underlying225
  a183 := Tryz.isAgg225
  z183 := Tryz.sizeOf225
  v183 := Tryz.zeroValue225
  t218 := Tryz.underlying270
  a218 := Tryz.isAgg270
  z218 := Tryz.sizeOf270
  v218 := Tryz.zeroValue270
  t222 := Tryz.underlying274
  a222 := Tryz.isAgg274
  z222 := Tryz.sizeOf274
  v222 := Tryz.zeroValue274
  t228 := Tryz.underlying309
  a228 := Tryz.isAgg309
  z228 := Tryz.sizeOf309
  v228 := Tryz.zeroValue309
  t229 := Tryz.underlying72
  a229 := Tryz.isAgg72
  z229 := Tryz.sizeOf72
  v229 := Tryz.zeroValue72 }
end Go.Proofs
namespace Go.Proofs.YtabdldfigjkfaaaGreatDoor
open Go Go.RowKit
open Go.Sort (putRow Holds)

/-! slices.Sort[[]int]. -/
def sortL (l : List Int) : List Int := l.mergeSort fun x y => decide (x ≤ y)
theorem sorted_ints {w : World} {base : Nat} {e : TypeId} {g n cap : Nat} {l : List Int} (h : w.ownsRow base e 1 (.slice (some ⟨g, 0, none⟩) n cap) n (l.map I)) (d' : Array Int) (hd : d'.size = n) (q : Nat) (os : Array Obj) :
    (Go.Sort.grow (putRow (Value.int .i64) (Go.Sort.ahead w q) g 0 d') os).ownsRow base e 1 (.slice (some ⟨g, 0, none⟩) n cap) n (d'.toList.map I) ∧ w.grownBy (Go.Sort.grow (putRow (Value.int .i64) (Go.Sort.ahead w q) g 0 d') os) (some g) := by
  obtain ⟨h1, h2⟩ := h
  rcases h2 with ⟨h2, _⟩ | ⟨g', cap', cur, hv, hb, hh, hc, hm, hs, ht⟩
  · cases h2
  · injection hv with hv _ hcap
    injection hv with hv
    injection hv with hv _ _
    subst hv; subst hcap
    have hlt : g < w.heap.size := (Array.getElem?_eq_some_iff.1 hh).1
    have hle : n ≤ cur.size := by rw [hs]; omega
    have hheap : (Go.Sort.grow (putRow (Value.int .i64) (Go.Sort.ahead w q) g 0 d') os).heap[g]? = some (.cells (Go.Sort.putCells (Value.int .i64) 0 d' cur) e) := by
      unfold putRow Go.Sort.mapBlock Go.Sort.grow
      rw [Array.getElem?_append_left (by simpa [Go.Sort.ahead] using hlt)]
      simp [Go.Sort.ahead, Array.getElem?_modify, hh, Go.Sort.onCells]
    refine ⟨⟨by simp [hd], .inr ⟨g, cap, _, rfl, hb, hheap, hc, hm, by simpa [Go.Sort.putCells] using hs, ?_⟩⟩, ⟨rfl, rfl, rfl, ?_, ?_⟩⟩
    · apply List.ext_getElem
      · simp [Go.Sort.putCells, hd]; omega
      · intro i h1 h2
        have hi : i < d'.size := by simpa using h2
        simp [Go.Sort.putCells, hi, getElem!_pos]
    · unfold putRow Go.Sort.mapBlock Go.Sort.grow
      simp [Go.Sort.ahead]
    · intro i hi hne
      have hne' : g ≠ i := fun e => hne (by rw [e])
      unfold putRow Go.Sort.mapBlock Go.Sort.grow
      rw [Array.getElem?_append_left (by simpa [Go.Sort.ahead] using hi)]
      simp [Go.Sort.ahead, Array.getElem?_modify, hne']
theorem own_ints {w : World} {base : Nat} {e : TypeId} {g n cap : Nat} {l : List Int} (h : w.ownsRow base e 1 (.slice (some ⟨g, 0, none⟩) n cap) n (l.map I)) (hn : l.length = n) : Holds (Value.int .i64) w g 0 l.toArray := by
  intro j hj
  have hj' : j < n * 1 := by simp at hj; omega
  have e1 := h.cellAt j hj'
  have e2 := h.frozenAt j
  rw [Nat.zero_add]
  refine ⟨?_, e2⟩
  rw [e1]
  have hjl : j < l.length := by omega
  simp [hjl, getElem!_pos]
theorem sortI_c (l : List Int) (v : Value) (base : Nat) (w : World) (h : w.ownsRow base 3 1 v l.length (l.map I)) (h0 : l ≠ []) (hl : l.length ≤ 1099511627776) :
    Calls Tryz.prog 218 #[v] w fun e w' => e = .returned (.tuple #[]) ∧ w'.ownsRow base 3 1 v (sortL l).length ((sortL l).map I) ∧ w.grownBy w' v.ownBlock := by
  have hpos : 0 < l.length := List.length_pos_iff.2 h0
  obtain ⟨g, cap, rfl, hgl⟩ : ∃ g cap, v = .slice (some ⟨g, 0, none⟩) l.length cap ∧ g < w.heap.size := by
    rcases h.2 with ⟨_, h2⟩ | ⟨g, cap, cur, rfl, _, hh, _⟩
    · omega
    · exact ⟨g, cap, rfl, (Array.getElem?_eq_some_iff.1 hh).1⟩
  refine (Any.slices_Sort_int Tryz.sortI g 0 cap l w (own_ints h rfl) hgl (by omega)).mono ?_
  rintro e w' ⟨rfl, q, os, rfl⟩
  have hlen : (sortL l).length = l.length := by simp [sortL]
  obtain ⟨r1, r2⟩ := sorted_ints h (sortL l).toArray (by simpa using hlen) q os
  exact ⟨rfl, own_cast r1 hlen.symm rfl, r2⟩
end Go.Proofs.YtabdldfigjkfaaaGreatDoor
