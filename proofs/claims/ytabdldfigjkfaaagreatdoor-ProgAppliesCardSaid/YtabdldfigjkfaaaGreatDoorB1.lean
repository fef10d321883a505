import Derived.Test.YtabdldfigjkfaaaGreatDoorB0
import Derived.Maps.RangeRun
import Derived.Maps.RangeWalk
namespace Go.Proofs.YtabdldfigjkfaaaGreatDoor
open Go Go.RowKit
open Go.ChangeMaps (setBlock)

/-! A range over a map. -/
theorem Ents.pair {es : List MapEntry} {m : KM} {c : Nat} (h : Ents es m c) {p : MapEntry × (Key × Str)} (hp : p ∈ es.zip m) : p.1.key = p.2.1.val ∧ p.1.val = .string p.2.2 ∧ p.1 ∈ es := by
  obtain ⟨i, hi, rfl⟩ := List.mem_iff_getElem.1 hp
  have h1 : i < es.length := by simp at hi; omega
  have h2 : i < m.length := by simp at hi; omega
  rw [List.getElem_zip]
  exact ⟨(h.at_ i h1 h2).1, (h.at_ i h1 h2).2, List.getElem_mem _⟩
theorem Ents.mem_pair {es : List MapEntry} {m : KM} {c : Nat} (h : Ents es m c) {e : MapEntry} (he : e ∈ es) : ∃ kv, (e, kv) ∈ es.zip m := by
  obtain ⟨i, hi, rfl⟩ := List.mem_iff_getElem.1 he
  have h2 : i < m.length := by rw [← h.len]; exact hi
  exact ⟨m[i], List.mem_iff_getElem.2 ⟨i, by simp; omega, by rw [List.getElem_zip]⟩⟩
theorem Ents.nodup {es : List MapEntry} {m : KM} {c : Nat} (h : Ents es m c) : (es.map MapEntry.born).Nodup := h.born.imp fun h => Nat.ne_of_lt h
theorem strike_perm {β : Type} (x : Nat) : ∀ (l : List (Nat × β)), (l.map Prod.fst).Nodup → ∀ b, (x, b) ∈ l → l.Perm ((x, b) :: l.filter fun p => p.1 != x)
  | [], _, _, h => by simp at h
  | p :: l, hn, b, h => by
    simp only [List.map_cons, List.nodup_cons] at hn
    rcases List.mem_cons.1 h with rfl | h
    · have : l.filter (fun p => p.1 != x) = l := List.filter_eq_self.2 fun q hq => by
        have : q.1 ≠ x := fun e => hn.1 (List.mem_map.2 ⟨q, hq, e⟩)
        simpa using this
      simp [this]
    · have hne : p.1 ≠ x := fun e => hn.1 (by rw [e]; exact List.mem_map_of_mem (f := Prod.fst) h)
      have ih := strike_perm x l hn.2 b h
      rw [List.filter_cons_of_pos (by simpa using hne)]
      exact (ih.cons p).trans (List.Perm.swap _ _ _)
def pairs (es : List MapEntry) (m : KM) : List (Nat × (Key × Str)) := (es.zip m).map fun p => (p.1.born, p.2)
theorem pairs_fst {es : List MapEntry} {m : KM} (h : es.length = m.length) : (pairs es m).map Prod.fst = es.map MapEntry.born := by
  unfold pairs
  rw [List.map_map, show (Prod.fst ∘ fun p : MapEntry × (Key × Str) => (p.1.born, p.2)) = MapEntry.born ∘ Prod.fst from rfl, ← List.map_map, List.map_fst_zip (by omega)]
theorem pairs_snd {es : List MapEntry} {m : KM} (h : es.length = m.length) : (pairs es m).map Prod.snd = m := by
  unfold pairs
  rw [List.map_map, show (Prod.snd ∘ fun p : MapEntry × (Key × Str) => (p.1.born, p.2)) = Prod.snd from rfl, List.map_snd_zip (by omega)]
def todo (es : List MapEntry) (m : KM) (seen : Array Nat) : List (Nat × (Key × Str)) := (pairs es m).filter fun p => !seen.contains p.1
theorem todo_nil {es : Array MapEntry} {m : KM} {c : Nat} {seen : Array Nat} (h : Ents es.toList m c) (h0 : (leftOf es seen).size = 0) : todo es.toList m seen = [] := by
  unfold todo
  rw [List.filter_eq_nil_iff]
  intro p hp
  unfold pairs at hp
  obtain ⟨q, hq, rfl⟩ := List.mem_map.1 hp
  have hm := (h.pair hq).2.2
  have : leftOf es seen = #[] := Array.eq_empty_of_size_eq_zero h0
  unfold leftOf at this
  rw [Array.filter_eq_empty_iff] at this
  exact this q.1 (by simpa using hm)
theorem todo_push {es : Array MapEntry} {m : KM} {c : Nat} {seen : Array Nat} (h : Ents es.toList m c) {e : MapEntry} (he : e ∈ (leftOf es seen).toList) :
    ∃ kv, e.key = kv.1.val ∧ e.val = .string kv.2 ∧ e ∈ es.toList ∧ (todo es.toList m seen).Perm ((e.born, kv) :: todo es.toList m (seen.push e.born)) := by
  unfold leftOf at he
  obtain ⟨hm, hs⟩ : e ∈ es.toList ∧ (!seen.contains e.born) = true := by simpa using he
  obtain ⟨kv, hkv⟩ := h.mem_pair hm
  have hp := h.pair hkv
  refine ⟨kv, hp.1, hp.2.1, hm, ?_⟩
  have hmem : (e.born, kv) ∈ todo es.toList m seen := List.mem_filter.2 ⟨List.mem_map.2 ⟨_, hkv, rfl⟩, hs⟩
  have hnd : ((todo es.toList m seen).map Prod.fst).Nodup := by
    have : ((pairs es.toList m).map Prod.fst).Nodup := by rw [pairs_fst h.len]; exact h.nodup
    exact this.sublist ((List.filter_sublist).map _)
  refine (strike_perm e.born _ hnd kv hmem).trans ?_
  rw [show (todo es.toList m seen).filter (fun p => p.1 != e.born) = todo es.toList m (seen.push e.born) from ?_]
  unfold todo
  rw [List.filter_filter]
  congr 1; funext p
  rw [Bool.eq_iff_iff]; simp
  constructor
  · rintro ⟨h1, h2⟩; exact ⟨h2, h1⟩
  · rintro ⟨h1, h2⟩; exact ⟨h2, h1⟩

/-- A range that goes on: 'out' has come, 'n' are to come. -/
structure Iter (w : World) (it r : Nat) (m : KM) (out : List (Key × Str)) (n : Nat) : Prop where
  ex : ∃ es clock since c0 seen, w.heap[it]? = some (.mapIter (some r) since seen c0) ∧ w.heap[r]? = some (.map es clock) ∧ Ents es.toList m clock ∧ (∀ x ∈ es.toList, x.born < since) ∧ since ≤ c0 ∧ since ≤ clock ∧
    (out ++ (todo es.toList m seen).map Prod.snd).Perm m ∧ (todo es.toList m seen).length = n
theorem Iter.keep {w w1 : World} {it r : Nat} {m : KM} {out : List (Key × Str)} {n : Nat} (h : Iter w it r m out n) (row : Option Nat) (hg : w.grownBy w1 row) (h1 : row ≠ some it) (h2 : row ≠ some r) : Iter w1 it r m out n := by
  obtain ⟨es, clock, since, c0, seen, hi, hr, k⟩ := h.ex
  exact ⟨es, clock, since, c0, seen, (hg.block it (Array.getElem?_eq_some_iff.1 hi).1 (Ne.symm h1)).trans hi, (hg.block r (Array.getElem?_eq_some_iff.1 hr).1 (Ne.symm h2)).trans hr, k⟩
theorem Iter.mem {w : World} {it r : Nat} {m : KM} {out : List (Key × Str)} {n : Nat} (h : Iter w it r m out n) : it < w.heap.size ∧ r < w.heap.size ∧ it ≠ r := by
  obtain ⟨es, clock, since, c0, seen, hi, hr, k⟩ := h.ex
  exact ⟨(Array.getElem?_eq_some_iff.1 hi).1, (Array.getElem?_eq_some_iff.1 hr).1, fun e => by subst e; rw [hi] at hr; cases hr⟩
theorem Iter.start {w : World} {r : Nat} {m : KM} (h : MapE w r m) : ∃ w1, (Instr.range 96 (.map (some r))).run Tryz.prog w = .ok (.pointer (some ⟨w.heap.size, 0, none⟩)) w1 ∧ Gr w w1 ∧ Iter w1 w.heap.size r m [] m.length := by
  have hlt := h.lt
  obtain ⟨es, c, hb, he⟩ := h
  refine ⟨_, run_range_map w 96 _ _ r es c Tryz.underlying96 hb, Gr.alloc w _, ⟨es, c, c, c, #[], heap_alloc_new w _, ?_, he, he.clock, Nat.le_refl _, Nat.le_refl _, ?_, ?_⟩⟩
  · exact ((Below.refl w.heap.size w).alloc (Nat.le_refl _) _).block r hlt |>.trans hb
  · have : todo es.toList m #[] = pairs es.toList m := by unfold todo; simp
    rw [this, pairs_snd he.len]; exact List.Perm.refl _
  · have : todo es.toList m #[] = pairs es.toList m := by unfold todo; simp
    rw [this]; unfold pairs; simp [show es.size = m.length by simpa using he.len]
theorem Iter.next {w : World} {it r : Nat} {m : KM} {out : List (Key × Str)} {n : Nat} (h : Iter w it r m out n) (ty : TypeId) :
    (out.Perm m ∧ (Instr.next (.pointer (some ⟨it, 0, none⟩)) false ty).run Tryz.prog w = .ok (.tuple #[.bool false]) w) ∨
    ∃ kv w1, (Instr.next (.pointer (some ⟨it, 0, none⟩)) false ty).run Tryz.prog w = .ok (.tuple #[.bool true, kv.1.val, .string kv.2]) w1 ∧ (Instr.entry (.pointer (some ⟨it, 0, none⟩))).run Tryz.prog w1 = .ok (.tuple #[kv.1.val, .string kv.2]) w1 ∧
      (∃ n', n = n' + 1 ∧ Iter w1 it r m (out ++ [kv]) n') ∧ w.grownBy w1 (some it) := by
  obtain ⟨h1, h2, h3⟩ := h.mem
  obtain ⟨es, clock, since, c0, seen, hi, hr, hE, hold, hsc, hcl, hp, hn⟩ := h.ex
  rcases run_next_at (P := Tryz.prog) w ty it r since c0 seen es clock hi hr hold hsc with ⟨hz, hrun⟩ | ⟨e, he, w1, hw1, hrun⟩
  · left
    rw [todo_nil hE hz] at hp
    exact ⟨by simpa using hp, hrun⟩
  · right
    obtain ⟨kv, hk, hv, hm, hpm⟩ := todo_push hE he
    have hr1 : w1.heap[r]? = some (.map es clock) := by rcases hw1 with rfl | rfl <;> exact hr
    have hs1 : w1.heap.size = w.heap.size := by rcases hw1 with rfl | rfl <;> rfl
    have hg1 : w.grownBy w1 (some it) := by
      rcases hw1 with rfl | rfl
      · exact World.grownBy.refl _ _
      · exact ⟨rfl, rfl, rfl, Nat.le_refl _, fun _ _ _ => rfl⟩
    have a1 : (setBlock w1 it (.mapIter (some r) since (seen.push e.born) clock)).heap[it]? = some (.mapIter (some r) since (seen.push e.born) clock) := by
      simp [setBlock, hs1, h1]
    have a2 : (setBlock w1 it (.mapIter (some r) since (seen.push e.born) clock)).heap[r]? = some (.map es clock) := by
      simp [setBlock, h3, hr1]
    refine ⟨kv, setBlock w1 it (.mapIter (some r) since (seen.push e.born) clock), ?_, ?_, ?_, World.grownBy.trans hg1 (grown_setObj w1 it _)⟩
    · rw [hrun, hk, hv]
    · rw [run_entry_at _ it r since seen es clock e a1 a2 hm hE.nodup, hk, hv]
    · have hl := hpm.length_eq
      simp only [List.length_cons] at hl
      refine ⟨(todo es.toList m (seen.push e.born)).length, by omega, ⟨es, clock, since, clock, seen.push e.born, a1, a2, hE, hold, hcl, hcl, ?_, rfl⟩⟩
      refine List.Perm.trans ?_ hp
      rw [List.append_assoc]
      exact (hpm.map Prod.snd).symm.append_left out
end Go.Proofs.YtabdldfigjkfaaaGreatDoor
