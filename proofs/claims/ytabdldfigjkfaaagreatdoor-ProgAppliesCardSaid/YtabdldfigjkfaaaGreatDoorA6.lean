import Derived.Test.YtabdldfigjkfaaaGreatDoorA5
import Derived.MapKept
namespace Go.Proofs.YtabdldfigjkfaaaGreatDoor
open Go Go.RowKit

/-! A map from keys to texts. -/
abbrev KM := List (Key × Str)
def mget (m : KM) (k : Key) : Str := ((m.find? fun p => decide (p.1 = k)).map Prod.snd).getD emp
def mput (m : KM) (k : Key) (v : Str) : KM := match m.findIdx? fun p => decide (p.1 = k) with
  | some i => m.set i (k, v)
  | none => m ++ [(k, v)]
def mdel (m : KM) (k : Key) : KM := match m.findIdx? fun p => decide (p.1 = k) with
  | some i => m.eraseIdx i
  | none => m
structure Ents (es : List MapEntry) (m : KM) (clock : Nat) : Prop where
  same : es.map (fun e => (e.key, e.val)) = m.map (fun p => (p.1.val, Value.string p.2))
  born : (es.map MapEntry.born).Pairwise (· < ·)
  clock : ∀ e ∈ es, e.born < clock
  keys : (m.map Prod.fst).Nodup
def MapE (w : World) (r : Nat) (m : KM) : Prop := ∃ es clock, w.heap[r]? = some (.map es clock) ∧ Ents es.toList m clock
theorem MapE.lt {w : World} {r : Nat} {m : KM} (h : MapE w r m) : r < w.heap.size := by
  obtain ⟨es, c, h, _⟩ := h
  exact (Array.getElem?_eq_some_iff.1 h).1
theorem MapE.keep {w w1 : World} {r : Nat} {m : KM} (h : MapE w r m) (hr : w1.heap[r]? = w.heap[r]?) : MapE w1 r m := by
  obtain ⟨es, c, h, he⟩ := h
  exact ⟨es, c, hr.trans h, he⟩
theorem MapE.below {w w1 : World} {r : Nat} {m : KM} (h : MapE w r m) (hb : Below w.heap.size w w1) : MapE w1 r m := h.keep (hb.block r h.lt)
theorem Ents.len {es : List MapEntry} {m : KM} {c : Nat} (h : Ents es m c) : es.length = m.length := by simpa using congrArg List.length h.same
theorem Ents.at_ {es : List MapEntry} {m : KM} {c : Nat} (h : Ents es m c) (i : Nat) (hi : i < es.length) (hm : i < m.length) : es[i].key = m[i].1.val ∧ es[i].val = .string m[i].2 := by
  have := congrArg (fun l => l[i]?) h.same
  simp [hi, hm] at this
  exact this

def look (m : KM) (k : Key) (i : Nat) : Option (Nat × Value) := match m with
  | [] => none
  | p :: m => if k = p.1 then some (i, .string p.2) else look m k (i + 1)
theorem run_eq76 (w : World) (a b : Key) : (Op.equal 76 a.val b.val).run Tryz.prog w = .ok (decide (a = b)) w := by
  unfold Op.equal
  refine (eqA76 9998 w _ _ _ _ _ _).trans (congrArg (fun q => Result.ok q w) ?_)
  exact keyEq_iff a b
theorem run_asking (w : World) (k : Key) : ∀ (es : List MapEntry) (m : KM) (i : Nat), es.map (fun e => (e.key, e.val)) = m.map (fun p => (p.1.val, Value.string p.2)) →
    (Instr.findAsking 76 k.val es i).run Tryz.prog w = .ok (look m k i) w
  | [], [], _, _ => by simp [Instr.findAsking, look]
  | [], _ :: _, _, h => by simp at h
  | _ :: _, [], _, h => by simp at h
  | e :: es, p :: m, i, h => by
    simp only [List.map_cons, List.cons.injEq, Prod.mk.injEq] at h
    obtain ⟨⟨h1, h2⟩, h3⟩ := h
    simp only [Instr.findAsking, Sem.run_bind, h1, run_eq76, Result.andThen_ok, look]
    by_cases hk : k = p.1
    · simp [hk, h2]
    · simp only [hk, decide_false, Bool.false_eq_true, if_false]
      exact run_asking w k es m (i + 1) h3
theorem run_find76 (w : World) (k : Key) (es : List MapEntry) (m : KM) (h : es.map (fun e => (e.key, e.val)) = m.map (fun p => (p.1.val, Value.string p.2))) :
    (Instr.findKey 76 k.val es).run Tryz.prog w = .ok (look m k 0) w := by
  unfold Instr.findKey
  simp only [Sem.run_bind, run_underlying Tryz.underlying76, Result.andThen_ok]
  cases es with
  | nil =>
    cases m with
    | nil => simp [Instr.findNow, look]
    | cons p m => simp at h
  | cons e es =>
    cases m with
    | nil => simp at h
    | cons p m =>
      have h0 := h
      simp only [List.map_cons, List.cons.injEq, Prod.mk.injEq] at h
      have : ∀ d fs, d = TypeDesc.struct fs → Instr.findNow d k.val (e :: es) 0 = none := by
        rintro d fs rfl
        rw [Instr.findNow, h.1.1]; rfl
      rw [this _ _ rfl]
      exact run_asking w k _ _ 0 h0
theorem run_check3 (w : World) (e : Bool) (n : Int) : (Instr.checkKey e 9999 3 (I n)).run Tryz.prog w = .ok () w := by
  show (Instr.checkKey e (9998 + 1) 3 (I n)).run Tryz.prog w = .ok () w
  unfold Instr.checkKey
  simp only [Sem.run_bind, run_underlying Tryz.underlying3, Result.andThen_ok]
  rfl
theorem run_check76 (w : World) (e : Bool) (k : Key) : (Instr.checkKey e 10000 76 k.val).run Tryz.prog w = .ok () w := by
  show (Instr.checkKey e (9999 + 1) 76 k.val).run Tryz.prog w = .ok () w
  unfold Instr.checkKey
  simp only [Sem.run_bind, run_underlying Tryz.underlying76, Result.andThen_ok]
  go_simp
  simp only [run_check3, Result.andThen_ok]
theorem look_eq (m : KM) (k : Key) (i : Nat) : look m k i = match m.findIdx? fun p => decide (p.1 = k) with
    | some j => some (i + j, .string (mget m k))
    | none => none := by
  induction m generalizing i with
  | nil => rfl
  | cons p m ih =>
    unfold look
    rw [List.findIdx?_cons]
    by_cases h : k = p.1
    · subst h; simp [mget]
    · have h' : ¬ p.1 = k := fun e => h e.symm
      rw [if_neg h, ih]
      simp only [h', decide_false, Bool.false_eq_true, if_false]
      cases hf : m.findIdx? (fun p => decide (p.1 = k)) with
      | none => rfl
      | some j => simp [mget, h']; omega
theorem mget_none {m : KM} {k : Key} (h : m.findIdx? (fun p => decide (p.1 = k)) = none) : mget m k = emp := by
  unfold mget
  rw [List.findIdx?_eq_none_iff] at h
  rw [List.find?_eq_none.2 (fun x hx => by simpa using h x hx)]
  rfl
theorem zero9 (w : World) : (zeroValue 9).run Tryz.prog w = .ok (.string emp) w := by kernel_rfl
/-- 'm[k]', read. -/
theorem run_lookup76 {w : World} {r : Nat} {m : KM} (h : MapE w r m) (k : Key) : (Instr.lookup 96 (.map (some r)) k.val false).run Tryz.prog w = .ok (.string (mget m k)) w := by
  obtain ⟨es, c, hb, he⟩ := h
  simp only [Instr.lookup, Sem.run_bind, run_underlying Tryz.underlying96, Result.andThen_ok, MapKept.run_getObj_map hb, Sem.run_pure, run_check76, run_find76 w k _ _ he.same, look_eq]
  cases hf : m.findIdx? (fun p => decide (p.1 = k)) with
  | none => simp [mget_none hf, emp]
  | some j => simp
theorem Ents.put_new {es : List MapEntry} {m : KM} {c : Nat} (h : Ents es m c) (k : Key) (v : Str) (hf : m.findIdx? (fun p => decide (p.1 = k)) = none) : Ents (es ++ [⟨k.val, .string v, c⟩]) (m ++ [(k, v)]) (c + 1) where
  same := by simp [h.same]
  born := by
    rw [List.map_append, List.pairwise_append]
    refine ⟨h.born, by simp, fun a ha b hb => ?_⟩
    obtain ⟨e, he, rfl⟩ := List.mem_map.1 ha
    simp at hb; subst hb
    exact h.clock e he
  clock := fun e he => by
    rcases List.mem_append.1 he with he | he
    · have := h.clock e he; omega
    · simp at he; subst he; simp
  keys := by
    rw [List.map_append, List.nodup_append]
    refine ⟨h.keys, by simp, fun a ha b hb => ?_⟩
    simp at hb; subst hb
    rintro rfl
    obtain ⟨p, hp, rfl⟩ := List.mem_map.1 ha
    have := (List.findIdx?_eq_none_iff.1 hf) p hp
    simp at this
theorem set_map {α β : Type} (f : α → β) (l : List α) (i : Nat) (x : α) : (l.set i x).map f = (l.map f).set i (f x) := by simp [List.map_set]
theorem Ents.put_at {es : List MapEntry} {m : KM} {c : Nat} (h : Ents es m c) (k : Key) (v : Str) (i : Nat) (hi : i < es.length) (hm : i < m.length) (hk : m[i].1 = k) : Ents (es.set i { es[i] with key := k.val, val := .string v }) (m.set i (k, v)) c where
  same := by rw [set_map, set_map, h.same]
  born := by
    rw [set_map]
    have : (List.map MapEntry.born es).set i es[i].born = List.map MapEntry.born es := by
      apply List.ext_getElem
      · simp
      · intro j h1 h2; rw [List.getElem_set]; split
        · rename_i e; subst e; simp
        · rfl
    simpa [this] using h.born
  clock := fun e he => by
    rcases List.mem_or_eq_of_mem_set he with he | rfl
    · exact h.clock e he
    · exact h.clock es[i] (List.getElem_mem _)
  keys := by
    rw [set_map]
    have : (List.map Prod.fst m).set i k = List.map Prod.fst m := by
      apply List.ext_getElem
      · simp
      · intro j h1 h2; rw [List.getElem_set]; split
        · rename_i e; subst e; simp [hk]
        · rfl
    simpa [this] using h.keys
theorem erase_map {α β : Type} (f : α → β) : ∀ (l : List α) (i : Nat), (l.eraseIdx i).map f = (l.map f).eraseIdx i
  | [], _ => by simp
  | _ :: _, 0 => by simp
  | _ :: l, i + 1 => by simp [erase_map f l i]
theorem Ents.del {es : List MapEntry} {m : KM} {c : Nat} (h : Ents es m c) (i : Nat) : Ents (es.eraseIdx i) (m.eraseIdx i) c where
  same := by rw [erase_map, erase_map, h.same]
  born := by rw [erase_map]; exact h.born.sublist (List.eraseIdx_sublist _ _)
  clock := fun e he => h.clock e (List.mem_of_mem_eraseIdx he)
  keys := by rw [erase_map]; exact h.keys.sublist (List.eraseIdx_sublist _ _)
theorem same_bits (k : Key) : Instr.sameBits 10000 k.val k.val = true := by
  show Instr.sameBits (9999 + 1) k.val k.val = true
  simp [Instr.sameBits]
theorem run_stays (w : World) (k : Key) : (Instr.keyThatStays k.val k.val).run Tryz.prog w = .ok k.val w := by
  simp [Instr.keyThatStays, same_bits]
theorem grown_setObj (w : World) (r : Nat) (o : Obj) : w.grownBy { w with heap := w.heap.setIfInBounds r o } (some r) :=
  ⟨rfl, rfl, rfl, by simp, fun i _ hne => by
    have : r ≠ i := fun e => hne (by rw [e])
    simp [this]⟩
theorem heap_setObj {w : World} {r : Nat} (o : Obj) (h : r < w.heap.size) : ({ w with heap := w.heap.setIfInBounds r o } : World).heap[r]? = some o := by
  simp [h]
/-- 'm[k] = v'. -/
theorem run_update76 {w : World} {r : Nat} {m : KM} (h : MapE w r m) (k : Key) (v : Str) : ∃ w', (Instr.mapUpdate 96 (.map (some r)) k.val (.string v)).run Tryz.prog w = .ok () w' ∧ MapE w' r (mput m k v) ∧ w.grownBy w' (some r) := by
  have hlt := h.lt
  obtain ⟨es, c, hb, he⟩ := h
  have hlen := he.len
  cases hf : m.findIdx? (fun p => decide (p.1 = k)) with
  | none =>
    refine ⟨_, ?_, ⟨es.push ⟨k.val, .string v, c⟩, c + 1, heap_setObj _ hlt, ?_⟩, grown_setObj _ _ _⟩
    · simp only [Instr.mapUpdate, Sem.run_bind, run_underlying Tryz.underlying96, Result.andThen_ok, MapKept.run_getObj_map hb, run_check76, run_find76 w k _ _ he.same, look_eq, hf, MapKept.run_setObj_map _ hb]
    · unfold mput; rw [hf]; simpa using he.put_new k v hf
  | some i =>
    obtain ⟨hi, hk, _⟩ := List.findIdx?_eq_some_iff_getElem.1 hf
    have hk : m[i].1 = k := by simpa using hk
    have hie : i < es.toList.length := by omega
    have hkey : es.toList[i].key = k.val := by rw [(he.at_ i hie hi).1, hk]
    refine ⟨_, ?_, ⟨es.modify i fun e => { e with key := k.val, val := .string v }, c, heap_setObj _ hlt, ?_⟩, grown_setObj _ _ _⟩
    · have hg : ((es[i]?).map (·.key)).getD k.val = k.val := by
        rw [Array.getElem?_eq_getElem (by simpa using hie)]; simpa using hkey
      simp only [Instr.mapUpdate, Sem.run_bind, run_underlying Tryz.underlying96, Result.andThen_ok, MapKept.run_getObj_map hb, run_check76, run_find76 w k _ _ he.same, look_eq, hf, Nat.zero_add, hg, run_stays, MapKept.run_setObj_map _ hb]
    · unfold mput; rw [hf]
      have := he.put_at k v i hie hi hk
      rw [Array.toList_modify, List.modify_eq_set, List.getElem?_eq_getElem hie]
      exact this
/-- 'delete(m, k)'. -/
theorem run_delete76 {w : World} {r : Nat} {m : KM} (h : MapE w r m) (k : Key) (ty : TypeId) : ∃ w', (Builtin.delete_ #[96, 76] ty #[.map (some r), k.val]).run Tryz.prog w = .ok (.tuple #[]) w' ∧ MapE w' r (mdel m k) ∧ w.grownBy w' (some r) := by
  have hlt := h.lt
  obtain ⟨es, c, hb, he⟩ := h
  have hlen := he.len
  cases hf : m.findIdx? (fun p => decide (p.1 = k)) with
  | none =>
    refine ⟨_, ?_, ⟨es, c, heap_setObj _ hlt, ?_⟩, grown_setObj _ _ _⟩
    · simp only [Builtin.delete_, List.getElem?_toArray, List.getElem?_cons_zero, List.getElem?_cons_succ, Sem.run_bind, run_underlying Tryz.underlying96, Result.andThen_ok, MapKept.run_getObj_map hb, run_check76, run_find76 w k _ _ he.same, look_eq, hf, MapKept.run_setObj_map _ hb, Sem.run_pure]
    · unfold mdel; rw [hf]; exact he
  | some i =>
    obtain ⟨hi, hk, _⟩ := List.findIdx?_eq_some_iff_getElem.1 hf
    have hie : i < es.toList.length := by omega
    refine ⟨_, ?_, ⟨es.eraseIdxIfInBounds i, c, heap_setObj _ hlt, ?_⟩, grown_setObj _ _ _⟩
    · simp only [Builtin.delete_, List.getElem?_toArray, List.getElem?_cons_zero, List.getElem?_cons_succ, Sem.run_bind, run_underlying Tryz.underlying96, Result.andThen_ok, MapKept.run_getObj_map hb, run_check76, run_find76 w k _ _ he.same, look_eq, hf, Nat.zero_add, MapKept.run_setObj_map _ hb, Sem.run_pure]
    · unfold mdel; rw [hf]
      have := he.del i
      simpa using this

/-! The same, for the walk. -/
section
variable {ops : Array Oper} {rest : List Oper} {o : Oper} {a : Act} {Q : Exit → Act → World → Prop} {w : World}
theorem wp_update76 {r : Nat} {m : KM} (h : MapE w r m) (hg : o.guard = none) (x y z : Operand) (hop : o.op = .mapUpdate 96 x y z) (k : Key) (v : Str) (hx : a.eval x = .map (some r)) (hy : a.eval y = k.val) (hz : a.eval z = .string v)
    (hK : ∀ w', MapE w' r (mput m k v) → w.grownBy w' (some r) → wpList Tryz.prog ops Q rest (a.put o.dst undef) w') : wpList Tryz.prog ops Q (o :: rest) a w := by
  refine wpList_plain hg fun K hK' => ?_
  obtain ⟨w', hrun, r1, r2⟩ := run_update76 h k v
  unfold Oper.wp
  simp [execOp, hop, hx, hy, hz, hrun, Result.andThen]
  exact hK' _ _ (hK w' r1 r2)
theorem wp_delete76 {r : Nat} {m : KM} (h : MapE w r m) (hg : o.guard = none) (x y : Operand) (hop : o.op = .call { callee := .builtin .delete, args := #[x, y], argTypes := #[96, 76] }) (k : Key) (hx : a.eval x = .map (some r)) (hy : a.eval y = k.val)
    (hK : ∀ w', MapE w' r (mdel m k) → w.grownBy w' (some r) → wpList Tryz.prog ops Q rest (a.put o.dst (.tuple #[])) w') : wpList Tryz.prog ops Q (o :: rest) a w := by
  refine wpList_plain hg fun K hK' => ?_
  obtain ⟨w', hrun, r1, r2⟩ := run_delete76 h k o.type
  unfold Oper.wp
  simp [execOp, hop, resolve, invoke, builtin, hx, hy, hrun, Result.andThen]
  exact hK' _ _ (hK w' r1 r2)
end
end Go.Proofs.YtabdldfigjkfaaaGreatDoor
