import Derived.Test.YtabdldfigjkfaaaGreatDoorB5
namespace Go.Proofs.YtabdldfigjkfaaaGreatDoor
open Go Go.RowKit

/-! The plain law of cells in order and of maps. -/
def SS (l : List Wr) : Prop := l.Pairwise fun x y => x.k.lt y.k = true
theorem klt_irrefl (k : Key) : k.lt k = false := by rw [Key.lt_f]; omega
theorem klt_trans {a b c : Key} (h : a.lt b = true) (k : b.lt c = true) : a.lt c = true := by rw [Key.lt_iff] at *; omega
theorem klt_asymm {a b : Key} (h : a.lt b = true) : b.lt a = false := by rw [Key.lt_iff] at h; rw [Key.lt_f]; omega
theorem klt_tri {a b : Key} (h : a.lt b = false) (k : a ≠ b) : b.lt a = true := by
  rw [Key.lt_f] at h; rw [Key.lt_iff]
  obtain ⟨x, y, z⟩ := a
  obtain ⟨x', y', z'⟩ := b
  simp only [ne_eq, Key.mk.injEq] at *
  omega
theorem klt_ne {a b : Key} (h : a.lt b = true) : a ≠ b := fun e => by subst e; rw [klt_irrefl] at h; cases h
theorem ss_ext : ∀ (l m : List Wr), SS l → SS m → (∀ x, x ∈ l ↔ x ∈ m) → l = m
  | [], [], _, _, _ => rfl
  | [], y :: m, _, _, h => by have := (h y).2 (by simp); simp at this
  | x :: l, [], _, _, h => by have := (h x).1 (by simp); simp at this
  | x :: l, y :: m, hl, hm, h => by
    obtain ⟨h1, h2⟩ := List.pairwise_cons.1 hl
    obtain ⟨k1, k2⟩ := List.pairwise_cons.1 hm
    have e : x = y := by
      rcases List.mem_cons.1 ((h x).1 (by simp)) with e | e
      · exact e
      · rcases List.mem_cons.1 ((h y).2 (by simp)) with e' | e'
        · exact e'.symm
        · have := klt_asymm (h1 _ e'); rw [k1 _ e] at this; cases this
    subst e
    rw [ss_ext l m h2 k2 fun z => ⟨fun hz => ?_, fun hz => ?_⟩]
    · rcases List.mem_cons.1 ((h z).1 (by simp [hz])) with e | e
      · subst e; have := klt_ne (h1 _ hz); exact absurd rfl this
      · exact e
    · rcases List.mem_cons.1 ((h z).2 (by simp [hz])) with e | e
      · subst e; have := klt_ne (k1 _ hz); exact absurd rfl this
      · exact e
theorem drop_tw {α : Type} (p : α → Bool) (l : List α) : l.drop (l.takeWhile p).length = l.dropWhile p := by
  induction l with
  | nil => rfl
  | cons x l ih =>
    by_cases h : p x = true
    · simp [h, ih]
    · simp [h]
theorem tw_lt {l : List Wr} {k : Key} {x : Wr} (h : x ∈ tw l k) : x.k.lt k = true := by
  have : ∀ l : List Wr, x ∈ l.takeWhile (fun x => x.k.lt k) → x.k.lt k = true := by
    intro l
    induction l with
    | nil => simp
    | cons y l ih =>
      intro h
      by_cases e : y.k.lt k = true
      · rw [List.takeWhile_cons_of_pos (p := fun x : Wr => x.k.lt k) e] at h
        rcases List.mem_cons.1 h with h | h
        · subst h; exact e
        · exact ih h
      · rw [List.takeWhile_cons_of_neg (p := fun x : Wr => x.k.lt k) e] at h; cases h
  exact this l h
theorem dw_ge {l : List Wr} (hl : SS l) {k : Key} {x : Wr} (h : x ∈ l.dropWhile (fun x => x.k.lt k)) : x.k.lt k = false := by
  induction l with
  | nil => simp at h
  | cons y l ih =>
    obtain ⟨h1, h2⟩ := List.pairwise_cons.1 hl
    by_cases e : y.k.lt k = true
    · rw [List.dropWhile_cons_of_pos (p := fun x : Wr => x.k.lt k) e] at h; exact ih h2 h
    · rw [List.dropWhile_cons_of_neg (p := fun x : Wr => x.k.lt k) e] at h
      have e : y.k.lt k = false := by simpa using e
      rcases List.mem_cons.1 h with h | h
      · subst h; exact e
      · have hy := h1 _ h
        rw [Key.lt_f] at *; rw [Key.lt_iff] at hy; omega
theorem putW_eq (l : List Wr) (k : Key) (v : Str) : putW l k v = tw l k ++ ((if v = emp then [] else [⟨k, v⟩]) ++ (l.dropWhile fun x => x.k.lt k).filter fun x => decide (x.k ≠ k)) := by
  unfold putW; rw [show (tw l k) = l.takeWhile fun x => x.k.lt k from rfl, drop_tw]
theorem mem_putW {l : List Wr} {k : Key} {v : Str} {x : Wr} : x ∈ putW l k v ↔ (x ∈ l ∧ x.k ≠ k) ∨ (x = ⟨k, v⟩ ∧ v ≠ emp) := by
  have hs : x ∈ l ↔ x ∈ tw l k ∨ x ∈ l.dropWhile fun x => x.k.lt k := by
    rw [← List.mem_append, tw, List.takeWhile_append_dropWhile]
  rw [putW_eq, List.mem_append, List.mem_append, hs]
  constructor
  · rintro (h | h | h)
    · exact .inl ⟨.inl h, klt_ne (tw_lt h)⟩
    · by_cases e : v = emp
      · simp [e] at h
      · simp [e] at h; exact .inr ⟨h, e⟩
    · simp only [List.mem_filter, decide_eq_true_eq] at h; exact .inl ⟨.inr h.1, h.2⟩
  · rintro (⟨h | h, hk⟩ | ⟨h, e⟩)
    · exact .inl h
    · exact .inr (.inr (List.mem_filter.2 ⟨h, by simpa using hk⟩))
    · exact .inr (.inl (by simp [e, h]))
theorem ss_putW {l : List Wr} (hl : SS l) (k : Key) (v : Str) : SS (putW l k v) := by
  rw [putW_eq]
  have hd : ∀ x ∈ (l.dropWhile fun x => x.k.lt k).filter (fun x => decide (x.k ≠ k)), k.lt x.k = true := by
    intro x hx
    simp only [List.mem_filter, decide_eq_true_eq] at hx
    exact klt_tri (dw_ge hl hx.1) hx.2
  refine List.pairwise_append.2 ⟨hl.sublist (List.takeWhile_sublist _), List.pairwise_append.2 ⟨by split <;> simp, (hl.sublist (List.dropWhile_sublist _)).sublist List.filter_sublist, ?_⟩, ?_⟩
  · intro x hx y hy
    by_cases e : v = emp
    · simp [e] at hx
    · simp [e] at hx; subst hx; exact hd y hy
  · intro x hx y hy
    have hx := tw_lt hx
    rcases List.mem_append.1 hy with hy | hy
    · by_cases e : v = emp
      · simp [e] at hy
      · simp [e] at hy; subst hy; exact hx
    · exact klt_trans hx (hd y hy)
def VW (l : List Wr) : Prop := ∀ x ∈ l, x.v ≠ emp
theorem vw_putW {l : List Wr} (hl : VW l) (k : Key) (v : Str) : VW (putW l k v) := fun x hx => by
  rcases mem_putW.1 hx with h | ⟨rfl, h⟩
  · exact hl x h.1
  · exact h
theorem getW_mem {l : List Wr} (hl : SS l) {x : Wr} (hx : x ∈ l) : getW l x.k = x.v := by
  induction l with
  | nil => cases hx
  | cons y l ih =>
    obtain ⟨h1, h2⟩ := List.pairwise_cons.1 hl
    unfold getW
    rcases List.mem_cons.1 hx with h | h
    · subst h; simp
    · have hy : y.k ≠ x.k := klt_ne (h1 _ h)
      rw [List.find?_cons_of_neg (by simpa using hy)]
      exact ih h2 h
theorem getW_no {l : List Wr} {k : Key} (h : ∀ x ∈ l, x.k ≠ k) : getW l k = emp := by
  unfold getW
  rw [List.find?_eq_none.2 fun x hx => by simpa using h x hx]; rfl
theorem getW_in {l : List Wr} {k : Key} (h : getW l k ≠ emp) : ⟨k, getW l k⟩ ∈ l := by
  unfold getW at *
  cases e : l.find? fun x => decide (x.k = k) with
  | none => rw [e] at h; exact absurd rfl h
  | some x =>
    have h1 := List.find?_some e
    have h2 := List.mem_of_find?_eq_some e
    simp at h1; subst h1; exact h2
/-! Maps. -/
def Nd (m : KM) : Prop := (m.map Prod.fst).Nodup
def VM (m : KM) : Prop := ∀ p ∈ m, p.2 ≠ emp
theorem nd_cons {p : Key × Str} {m : KM} : Nd (p :: m) ↔ (∀ q ∈ m, q.1 ≠ p.1) ∧ Nd m := by
  unfold Nd
  simp only [List.map_cons, List.nodup_cons, List.mem_map, Prod.exists, exists_and_right, exists_eq_right, not_exists]
  constructor
  · rintro ⟨h, k⟩; exact ⟨fun q hq e => h q.2 (by rw [← e]; exact hq), k⟩
  · rintro ⟨h, k⟩; exact ⟨fun v hv => h _ hv rfl, k⟩
theorem nd_uniq {m : KM} (h : Nd m) {k : Key} {v v' : Str} (h1 : (k, v) ∈ m) (h2 : (k, v') ∈ m) : v = v' := by
  induction m with
  | nil => cases h1
  | cons p m ih =>
    obtain ⟨k1, k2⟩ := nd_cons.1 h
    rcases List.mem_cons.1 h1 with g1 | g1 <;> rcases List.mem_cons.1 h2 with g2 | g2
    · rw [← g1] at g2; injection g2 with _ g2; exact g2.symm
    · exact absurd (by rw [← g1]) (k1 _ g2)
    · exact absurd (by rw [← g2]) (k1 _ g1)
    · exact ih k2 g1 g2
theorem mget_in {m : KM} {k : Key} (h : mget m k ≠ emp) : (k, mget m k) ∈ m := by
  unfold mget at *
  cases e : m.find? fun p => decide (p.1 = k) with
  | none => rw [e] at h; exact absurd rfl h
  | some x =>
    have h1 := List.find?_some e
    have h2 := List.mem_of_find?_eq_some e
    simp at h1; subst h1; exact h2
theorem mget_mem {m : KM} (hm : Nd m) {k : Key} {v : Str} (h : (k, v) ∈ m) : mget m k = v := by
  unfold mget
  cases e : m.find? fun p => decide (p.1 = k) with
  | none => have := List.find?_eq_none.1 e _ h; simp at this
  | some x =>
    have h1 := List.find?_some e
    have h2 := List.mem_of_find?_eq_some e
    simp at h1; subst h1; exact nd_uniq hm h2 h
theorem find_split {m : KM} (hm : Nd m) {k : Key} {i : Nat} (h : m.findIdx? (fun p => decide (p.1 = k)) = some i) : ∃ l v r, m = l ++ (k, v) :: r ∧ l.length = i ∧ (∀ p ∈ l, p.1 ≠ k) ∧ (∀ p ∈ r, p.1 ≠ k) := by
  induction m generalizing i with
  | nil => simp at h
  | cons p m ih =>
    obtain ⟨k1, k2⟩ := nd_cons.1 hm
    rw [List.findIdx?_cons] at h
    by_cases e : p.1 = k
    · simp [e] at h; subst h; subst e
      exact ⟨[], p.2, m, rfl, rfl, by simp, k1⟩
    · simp [e] at h
      obtain ⟨j, hj, rfl⟩ := h
      obtain ⟨l, v, r, rfl, rfl, a, b⟩ := ih k2 hj
      have hx : ∀ q ∈ p :: l, q.1 ≠ k := by
        intro q hq
        rcases List.mem_cons.1 hq with rfl | hq
        · exact e
        · exact a q hq
      exact ⟨p :: l, v, r, rfl, rfl, hx, b⟩
theorem find_no {m : KM} {k : Key} (h : m.findIdx? (fun p => decide (p.1 = k)) = none) : ∀ p ∈ m, p.1 ≠ k := fun p hp => by
  simpa using List.findIdx?_eq_none_iff.1 h p hp
theorem mem_gput {m : KM} (hm : Nd m) {k : Key} {v : Str} {p : Key × Str} : p ∈ gput m k v ↔ (p ∈ m ∧ p.1 ≠ k) ∨ (p = (k, v) ∧ v ≠ emp) := by
  unfold gput mdel mput
  by_cases e : v = emp
  · rw [if_pos e]
    cases h : m.findIdx? fun p => decide (p.1 = k) with
    | none => exact ⟨fun hp => .inl ⟨hp, find_no h p hp⟩, fun hp => hp.elim (·.1) fun x => absurd e x.2⟩
    | some i =>
      obtain ⟨l, u, r, rfl, rfl, h1, h2⟩ := find_split hm h
      simp only [List.eraseIdx_append_of_length_le (Nat.le_refl _), Nat.sub_self, List.eraseIdx_cons_zero, List.mem_append, List.mem_cons]
      constructor
      · rintro (h | h)
        · exact .inl ⟨.inl h, h1 p h⟩
        · exact .inl ⟨.inr (.inr h), h2 p h⟩
      · rintro (⟨h | h | h, hk⟩ | ⟨_, h⟩)
        · exact .inl h
        · subst h; exact absurd rfl hk
        · exact .inr h
        · exact absurd e h
  · rw [if_neg e]
    cases h : m.findIdx? fun p => decide (p.1 = k) with
    | none =>
      simp only [List.mem_append, List.mem_singleton]
      exact ⟨fun hp => hp.elim (fun hp => .inl ⟨hp, find_no h p hp⟩) (fun hp => .inr ⟨hp, e⟩), fun hp => hp.elim (fun x => .inl x.1) (fun x => .inr x.1)⟩
    | some i =>
      obtain ⟨l, u, r, rfl, rfl, h1, h2⟩ := find_split hm h
      simp only [List.set_append_right _ _ (Nat.le_refl _), Nat.sub_self, List.set_cons_zero, List.mem_append, List.mem_cons]
      constructor
      · rintro (h | h | h)
        · exact .inl ⟨.inl h, h1 p h⟩
        · exact .inr ⟨h, e⟩
        · exact .inl ⟨.inr (.inr h), h2 p h⟩
      · rintro (⟨h | h | h, hk⟩ | ⟨h, _⟩)
        · exact .inl h
        · subst h; exact absurd rfl hk
        · exact .inr (.inr h)
        · exact .inr (.inl h)
theorem nd_gput {m : KM} (hm : Nd m) (k : Key) (v : Str) : Nd (gput m k v) := by
  unfold gput mdel mput
  by_cases e : v = emp
  · rw [if_pos e]
    cases h : m.findIdx? fun p => decide (p.1 = k) with
    | none => exact hm
    | some i => exact List.Nodup.sublist ((List.eraseIdx_sublist _ _).map _) hm
  · rw [if_neg e]
    cases h : m.findIdx? fun p => decide (p.1 = k) with
    | none =>
      have := find_no h
      unfold Nd
      simp only [List.map_append, List.map_cons, List.map_nil]
      refine List.nodup_append.2 ⟨hm, by simp, ?_⟩
      intro a ha b hb
      obtain ⟨p, hp, rfl⟩ := List.mem_map.1 ha
      simp at hb; subst hb; exact this p hp
    | some i =>
      obtain ⟨l, u, r, rfl, rfl, h1, h2⟩ := find_split hm h
      simp only [List.set_append_right _ _ (Nat.le_refl _), Nat.sub_self, List.set_cons_zero]
      simpa [Nd] using hm
theorem vm_gput {m : KM} (hn : Nd m) (hm : VM m) (k : Key) (v : Str) : VM (gput m k v) := fun p hp => by
  rcases (mem_gput hn).1 hp with h | ⟨rfl, h⟩
  · exact hm p h.1
  · exact h
/-- A row of cells in order, and a map of the same. -/
structure Rel (x : List Wr) (m : KM) : Prop where
  ss : SS x
  vw : VW x
  nd : Nd m
  vm : VM m
  mem : ∀ y : Wr, y ∈ x ↔ (y.k, y.v) ∈ m
theorem Rel.nil : Rel [] [] where
  ss := List.Pairwise.nil
  vw := fun _ h => (by cases h)
  nd := List.Pairwise.nil
  vm := fun _ h => (by cases h)
  mem := by simp
theorem Rel.put {x : List Wr} {m : KM} (h : Rel x m) (k : Key) (v : Str) : Rel (putW x k v) (gput m k v) where
  ss := ss_putW h.ss k v
  vw := vw_putW h.vw k v
  nd := nd_gput h.nd k v
  vm := vm_gput h.nd h.vm k v
  mem y := by
    rw [mem_putW, mem_gput h.nd, h.mem]
    obtain ⟨k', v'⟩ := y
    simp
theorem Rel.apply {x : List Wr} {m : KM} (h : Rel x m) (l : List Wr) : Rel (applyW x l) (applyM m l) := by
  unfold applyW applyM
  induction l generalizing x m with
  | nil => exact h
  | cons y l ih => exact ih (h.put y.k y.v)
theorem Rel.get {x : List Wr} {m : KM} (h : Rel x m) (k : Key) : getW x k = mget m k := by
  by_cases e : getW x k = emp
  · by_cases e' : mget m k = emp
    · rw [e, e']
    · have := (h.mem ⟨k, mget m k⟩).2 (mget_in e')
      exact getW_mem h.ss this
  · exact (mget_mem h.nd ((h.mem ⟨k, getW x k⟩).1 (getW_in e))).symm
theorem ss_of {l : List Wr} (h : Asc l) (hn : (l.map Wr.k).Nodup) : SS l := by
  induction l with
  | nil => exact List.Pairwise.nil
  | cons x l ih =>
    obtain ⟨h1, h2⟩ := List.pairwise_cons.1 h
    rw [List.map_cons, List.nodup_cons] at hn
    refine List.pairwise_cons.2 ⟨fun y hy => klt_tri (h1 y hy) fun e => hn.1 (by rw [← e]; exact List.mem_map_of_mem (f := Wr.k) hy), ih h2 hn.2⟩
theorem wrOf_keys (m : KM) : (m.map wrOf).map Wr.k = m.map Prod.fst := by rw [List.map_map]; rfl
theorem IsAll.ss {m : KM} {y : List Wr} (hn : Nd m) (h : IsAll m y) : SS y :=
  ss_of h.2 (by rw [(h.1.map Wr.k).nodup_iff, wrOf_keys]; exact hn)
theorem IsAll.mem {m : KM} {y : List Wr} (h : IsAll m y) (z : Wr) : z ∈ y ↔ (z.k, z.v) ∈ m := by
  rw [h.1.mem_iff, List.mem_map]
  exact ⟨fun ⟨p, hp, e⟩ => by subst e; exact hp, fun hz => ⟨_, hz, rfl⟩⟩
theorem Rel.all {x : List Wr} {m : KM} (h : Rel x m) {y : List Wr} (hy : IsAll m y) : y = x :=
  ss_ext y x (hy.ss h.nd) h.ss fun z => by rw [hy.mem, h.mem]
theorem nodup_map_sub {l m : List Wr} (h : l.Sublist m) (hm : (m.map Wr.k).Nodup) : (l.map Wr.k).Nodup := hm.sublist (h.map _)
theorem ss_nodup {l : List Wr} (h : SS l) : (l.map Wr.k).Nodup := by
  rw [List.Nodup, List.pairwise_map]; exact h.imp fun h => klt_ne h
theorem keys_effA (b : KM) (l : List Wr) : ((effA b l).map Wr.k).Sublist (l.map Wr.k) := by
  unfold effA
  induction l with
  | nil => simp
  | cons x l ih =>
    rw [List.filterMap_cons]
    split
    · exact ih.cons _
    · rename_i h
      split at h
      · cases h
      · injection h with h; subst h; exact ih.cons_cons _
theorem mem_effA {b : KM} {l : List Wr} {z : Wr} : z ∈ effA b l ↔ ∃ x ∈ l, mget b x.k ≠ x.v ∧ z = ⟨x.k, mget b x.k⟩ := by
  unfold effA
  rw [List.mem_filterMap]
  constructor
  · rintro ⟨x, hx, h⟩
    split at h
    · cases h
    · injection h with h; exact ⟨x, hx, ‹_›, h.symm⟩
  · rintro ⟨x, hx, h, rfl⟩; exact ⟨x, hx, by rw [if_neg h]⟩
theorem mem_ones {g l : List Wr} (y : Wr) : y ∈ applyW g (ones l) ↔ (y ∈ g ∧ ∀ x ∈ l, x.k ≠ y.k) ∨ (y.v = sx ∧ ∃ x ∈ l, x.k = y.k) := by
  unfold applyW ones
  induction l generalizing g with
  | nil => simp
  | cons x l ih =>
    rw [List.map_cons, List.foldl_cons, ih, mem_putW]
    have hs : sx ≠ emp := by decide
    constructor
    · rintro (⟨⟨h, hk⟩ | ⟨h, _⟩, hl⟩ | ⟨h, z, hz, hk⟩)
      · refine .inl ⟨h, ?_⟩
        intro z hz
        rcases List.mem_cons.1 hz with rfl | hz
        · exact fun e => hk e.symm
        · exact hl z hz
      · exact .inr ⟨by rw [h], x, by simp, by rw [h]⟩
      · exact .inr ⟨h, z, by simp [hz], hk⟩
    · rintro (⟨h, hl⟩ | ⟨h, z, hz, hk⟩)
      · exact .inl ⟨.inl ⟨h, fun e => hl x (by simp) e.symm⟩, fun z hz => hl z (by simp [hz])⟩
      · by_cases e : ∃ x ∈ l, x.k = y.k
        · exact .inr ⟨h, e⟩
        · have e : ∀ x ∈ l, x.k ≠ y.k := fun z hz hk => e ⟨z, hz, hk⟩
          rcases List.mem_cons.1 hz with rfl | hz
          · exact .inl ⟨.inr ⟨by obtain ⟨k, v⟩ := y; simp at hk h; simp [hk, h], hs⟩, e⟩
          · exact absurd hk (e z hz)
theorem ss_apply {g : List Wr} (hg : SS g) (l : List Wr) : SS (applyW g l) := by
  unfold applyW
  induction l generalizing g with
  | nil => exact hg
  | cons x l ih => exact ih (ss_putW hg _ _)
theorem keys_effW1 (a b l : List Wr) : ((effW1 a b l).map Wr.k).Sublist (l.map Wr.k) := by
  unfold effW1
  induction l with
  | nil => simp
  | cons x l ih =>
    rw [List.filterMap_cons]
    split
    · exact ih.cons _
    · rename_i h
      split at h
      · cases h
      · injection h with h; subst h; exact ih.cons_cons _
theorem ss_effW (a b : List Wr) : SS (effW a b) := by
  have h : SS (allW a b) := ss_apply (ss_apply List.Pairwise.nil _) _
  have hs : ((allW a b).map Wr.k).Pairwise (fun x y => x.lt y = true) := List.pairwise_map.2 h
  exact List.pairwise_map.1 (hs.sublist (keys_effW1 a b (allW a b)))
theorem mem_effW {a b : List Wr} {z : Wr} : z ∈ effW a b ↔ getW b z.k = z.v ∧ getW b z.k ≠ getW a z.k := by
  unfold effW effW1
  rw [List.mem_filterMap]
  constructor
  · rintro ⟨x, hx, h⟩
    split at h
    · cases h
    · injection h with h; subst h; exact ⟨rfl, ‹_›⟩
  · rintro ⟨h1, h2⟩
    have hin : ⟨z.k, sx⟩ ∈ allW a b := by
      unfold allW
      rw [mem_ones]
      by_cases e : getW b z.k = emp
      · have ha : getW a z.k ≠ emp := fun e' => h2 (by rw [e, e'])
        have ha := getW_in ha
        by_cases hb : ∃ x ∈ b, x.k = z.k
        · exact .inr ⟨rfl, hb⟩
        · refine .inl ⟨(mem_ones _).2 (.inr ⟨rfl, _, ha, rfl⟩), fun x hx hk => hb ⟨x, hx, hk⟩⟩
      · exact .inr ⟨rfl, _, getW_in e, rfl⟩
    refine ⟨_, hin, ?_⟩
    rw [if_neg h2]
    obtain ⟨k, v⟩ := z
    simp at h1; simp [h1]
theorem Rel.eff {x y : List Wr} {a b : KM} (ha : Rel x a) (hb : Rel y b) {z : List Wr} (hz : IsEff a b z) : z = effW x y := by
  obtain ⟨la, lb, h1, h2, hp, hA⟩ := hz
  have hla : SS la := h1.ss ha.nd
  have hlb : SS lb := h2.ss hb.nd
  have hva : ∀ w ∈ la, mget a w.k = w.v ∧ w.v ≠ emp := fun w hw => ⟨mget_mem ha.nd ((h1.mem w).1 hw), ha.vm _ ((h1.mem w).1 hw)⟩
  have hvb : ∀ w ∈ lb, mget b w.k = w.v ∧ w.v ≠ emp := fun w hw => ⟨mget_mem hb.nd ((h2.mem w).1 hw), hb.vm _ ((h2.mem w).1 hw)⟩
  have hs : SS z := ss_of hA (by
    rw [(hp.map Wr.k).nodup_iff, List.map_append, List.nodup_append]
    refine ⟨(ss_nodup hla).sublist (keys_effA b la), nodup_map_sub List.filter_sublist (ss_nodup hlb), ?_⟩
    intro k hk k' hk' e
    subst e
    obtain ⟨u, hu, rfl⟩ := List.mem_map.1 hk
    obtain ⟨w, hw, e⟩ := List.mem_map.1 hk'
    obtain ⟨q, hq, _, rfl⟩ := mem_effA.1 hu
    simp only [effB, List.mem_filter, decide_eq_true_eq] at hw
    have := hva q hq
    simp only at e
    rw [e, this.1] at hw
    exact this.2 hw.2)
  refine ss_ext z _ hs (ss_effW x y) fun w => ?_
  rw [hp.mem_iff, List.mem_append, mem_effA, mem_effW, ha.get, hb.get]
  simp only [effB, List.mem_filter, decide_eq_true_eq]
  constructor
  · rintro (⟨q, hq, hne, rfl⟩ | ⟨hw, he⟩)
    · exact ⟨rfl, by rw [(hva q hq).1]; exact hne⟩
    · have := hvb w hw
      exact ⟨this.1, by rw [this.1, he]; exact this.2⟩
  · rintro ⟨he, hne⟩
    by_cases e : mget a w.k = emp
    · right
      rw [e] at hne
      refine ⟨?_, e⟩
      have := (h2.mem ⟨w.k, mget b w.k⟩).2 (mget_in hne)
      rw [he] at this; exact this
    · left
      refine ⟨⟨w.k, mget a w.k⟩, (h1.mem _).2 (mget_in e), hne, ?_⟩
      simp [he]
end Go.Proofs.YtabdldfigjkfaaaGreatDoor
