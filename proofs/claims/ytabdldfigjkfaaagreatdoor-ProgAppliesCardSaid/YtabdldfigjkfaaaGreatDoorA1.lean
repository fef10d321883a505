import Derived.Test.YtabdldfigjkfaaaGreatDoorA0
namespace Go.Proofs.YtabdldfigjkfaaaGreatDoor
open Go Go.RowKit

/-! '==' of structs, as one Bool. -/
section
variable {P : Program} {d : Nat} {xs ys : Array Value} {f : Field} {fs : List Field} {a b : Value} {r s : Bool} {w : World}
theorem eqf_last (hn : (f.name == "_") = false) (ha : (part f.type xs f.offset).run P w = .ok a w) (hb : (part f.type ys f.offset).run P w = .ok b w) (he : (Op.equalIn d f.type a b).run P w = .ok r w) : (Op.eqFields d xs ys [f]).run P w = .ok r w := by
  have hn' : f.name ≠ "_" := by simpa using hn
  simp only [Op.eqFields, if_pos hn', Sem.run_bind, ha, hb, he, Result.andThen_ok]
  cases r <;> simp
theorem eqf_cons (hn : (f.name == "_") = false) (ha : (part f.type xs f.offset).run P w = .ok a w) (hb : (part f.type ys f.offset).run P w = .ok b w) (he : (Op.equalIn d f.type a b).run P w = .ok r w) (hr : (Op.eqFields d xs ys fs).run P w = .ok s w) : (Op.eqFields d xs ys (f :: fs)).run P w = .ok (r && s) w := by
  have hn' : f.name ≠ "_" := by simpa using hn
  rw [Op.eqFields]
  simp only [if_pos hn', Sem.run_bind, ha, hb, he, Result.andThen_ok]
  cases r
  · simp
  · simpa using hr
theorem eqA_of {t : TypeId} {fs : Array Field} (hu : P.underlying t = some (.struct fs)) (hp : P.stoodInHeld t = false) (h : (Op.eqFields d xs ys fs.toList).run P w = .ok r w) : (Op.equalIn (d + 1) t (.agg xs) (.agg ys)).run P w = .ok r w := by
  have hf : P.fieldsOf t = fs := by simp [Program.fieldsOf, hu]
  rw [run_equalIn_struct (P := P) w d t xs ys (by rw [hf]; exact hu) hp, hf]
  exact h
end
theorem eqA76 (d : Nat) (w : World) (x0 y0 x1 y1 x2 y2 : Int) :
    (Op.equalIn (d + 2) 76 (.agg #[I x0, I x1, I x2]) (.agg #[I y0, I y1, I y2])).run Tryz.prog w = .ok (decide (x0 = y0 ∧ x1 = y1 ∧ x2 = y2)) w := by
  have h : (Op.equalIn (d + 2) 76 (.agg #[I x0, I x1, I x2]) (.agg #[I y0, I y1, I y2])).run Tryz.prog w = .ok (x0 == y0 && (x1 == y1 && (x2 == y2))) w := by
    refine eqA_of Tryz.underlying76 (by kernel_rfl) ?_
    refine eqf_cons (by rfl) (by go_simp; rfl) (by go_simp; rfl) (by go_simp) ?_
    refine eqf_cons (by rfl) (by go_simp; rfl) (by go_simp; rfl) (by go_simp) ?_
    exact eqf_last (by rfl) (by go_simp; rfl) (by go_simp; rfl) (by go_simp)
  refine h.trans (congrArg (fun q => Result.ok q w) ?_)
  by_cases h0 : x0 = y0 <;> by_cases h1 : x1 = y1 <;> by_cases h2 : x2 = y2 <;> simp [h0, h1, h2]
theorem str_beq (a b : ByteArray) : (a.toList == b.toList) = decide (a = b) := by
  rw [ByteArray.toList_eq, ByteArray.toList_eq]
  obtain ⟨⟨x⟩⟩ := a
  obtain ⟨⟨y⟩⟩ := b
  by_cases h : x = y
  · subst h; simp
  · have : ¬ (ByteArray.mk ⟨x⟩ = ByteArray.mk ⟨y⟩) := fun e => h (by injection e with e; injection e)
    rw [decide_eq_false this]; simpa using h
theorem eqA100 (d : Nat) (w : World) (x0 y0 x1 y1 x2 y2 : Int) (x3 y3 : ByteArray) :
    (Op.equalIn (d + 3) 100 (.agg #[I x0, I x1, I x2, .string x3]) (.agg #[I y0, I y1, I y2, .string y3])).run Tryz.prog w = .ok (decide ((x0 = y0 ∧ x1 = y1 ∧ x2 = y2) ∧ x3 = y3)) w := by
  have h : (Op.equalIn (d + 3) 100 (.agg #[I x0, I x1, I x2, .string x3]) (.agg #[I y0, I y1, I y2, .string y3])).run Tryz.prog w = .ok (decide (x0 = y0 ∧ x1 = y1 ∧ x2 = y2) && (x3.toList == y3.toList)) w := by
    refine eqA_of Tryz.underlying100 (by kernel_rfl) ?_
    refine eqf_cons (by rfl) (by go_simp) (by go_simp) (eqA76 (d + 0) w _ _ _ _ _ _) ?_
    exact eqf_last (by rfl) (by go_simp; rfl) (by go_simp; rfl) (by go_simp)
  refine h.trans (congrArg (fun q => Result.ok q w) ?_)
  rw [str_beq]
  by_cases h0 : (x0 = y0 ∧ x1 = y1 ∧ x2 = y2) <;> by_cases h3 : x3 = y3 <;> simp only [h0, h3, decide_true, decide_false, Bool.and_true, Bool.and_false, and_self, and_true, and_false, and_self]
theorem guard76 : Tryz.prog.eqGuardType Tryz.prog.depth 76 = false := by kernel_rfl
theorem guard100 : Tryz.prog.eqGuardType Tryz.prog.depth 100 = false := by kernel_rfl
/-- Two keys are one; two writes are one: closed to simp. -/
def keyEq (x0 x1 x2 y0 y1 y2 : Int) : Bool := decide (x0 = y0 ∧ x1 = y1 ∧ x2 = y2)
def wrEq (x0 x1 x2 : Int) (x3 : ByteArray) (y0 y1 y2 : Int) (y3 : ByteArray) : Bool := decide ((x0 = y0 ∧ x1 = y1 ∧ x2 = y2) ∧ x3 = y3)
theorem keyEq_iff (a b : Key) : keyEq a.kind a.a a.b b.kind b.a b.b = decide (a = b) := by
  cases a; cases b; simp [keyEq]
theorem wrEq_iff (a b : Wr) : wrEq a.k.kind a.k.a a.k.b a.v b.k.kind b.k.a b.k.b b.v = decide (a = b) := by
  obtain ⟨⟨_, _, _⟩, _⟩ := a; obtain ⟨⟨_, _, _⟩, _⟩ := b; simp [wrEq]
section
variable (w : World) (x0 y0 x1 y1 x2 y2 : Int) (x3 y3 : ByteArray)
@[go_sem] theorem guardR76 (op : BinOp) (x y : Operand) (xs ys : Array Value) : (eqGuard op 76 x y (.agg xs) (.agg ys)).run Tryz.prog w = .ok () w := run_eqGuard_agg w op 76 x y xs ys guard76
@[go_sem] theorem guardR100 (op : BinOp) (x y : Operand) (xs ys : Array Value) : (eqGuard op 100 x y (.agg xs) (.agg ys)).run Tryz.prog w = .ok () w := run_eqGuard_agg w op 100 x y xs ys guard100
@[go_sem high] theorem eql76 : (binOp .eql 76 (.agg #[I x0, I x1, I x2]) (.agg #[I y0, I y1, I y2])).run Tryz.prog w = .ok (.bool (keyEq x0 x1 x2 y0 y1 y2)) w := by
  rw [run_eql_struct, eqA76 9998]; rfl
@[go_sem high] theorem neq76 : (binOp .neq 76 (.agg #[I x0, I x1, I x2]) (.agg #[I y0, I y1, I y2])).run Tryz.prog w = .ok (.bool (!keyEq x0 x1 x2 y0 y1 y2)) w := by
  rw [run_neq_struct, eqA76 9998]; rfl
@[go_sem high] theorem eql100 : (binOp .eql 100 (.agg #[I x0, I x1, I x2, .string x3]) (.agg #[I y0, I y1, I y2, .string y3])).run Tryz.prog w = .ok (.bool (wrEq x0 x1 x2 x3 y0 y1 y2 y3)) w := by
  rw [run_eql_struct, eqA100 9997]; rfl
@[go_sem high] theorem neq100 : (binOp .neq 100 (.agg #[I x0, I x1, I x2, .string x3]) (.agg #[I y0, I y1, I y2, .string y3])).run Tryz.prog w = .ok (.bool (!wrEq x0 x1 x2 x3 y0 y1 y2 y3)) w := by
  rw [run_neq_struct, eqA100 9997]; rfl
end

theorem info100 : (Tryz.prog.info? 100).map (fun i => (i.zero, i.size, i.bytes)) = some (some (.agg #[I 0, I 0, I 0, .string ⟨#[]⟩]), 4, 40) := by kernel_rfl

/-- The order of keys. -/
def Key.lt (a b : Key) : Bool := if a.kind ≠ b.kind then decide (a.kind < b.kind) else if a.a ≠ b.a then decide (a.a < b.a) else decide (a.b < b.b)

set_option maxHeartbeats 400000 in
theorem less11_c (a b : Key) (w : World) : Calls Tryz.prog 120 #[a.val, b.val] w fun e w' => e = .returned (.bool (a.lt b)) ∧ Below w.heap.size w w' := by
  by_cases h1 : a.kind = b.kind
  · by_cases h2 : a.a = b.a
    · have e : a.lt b = decide (a.b < b.b) := by simp [Key.lt, h1, h2]
      have E := Lib.hid e; clear e
      go_enter Tryz.func120, Tryz.ntmps120
      go_wp2
      go_ret
      exact ⟨by rw [E.out]; rfl, ((Below.refl _ _).alloc (by simp) _).alloc (by simp) _⟩
    · have e : a.lt b = decide (a.a < b.a) := by simp [Key.lt, h1, h2]
      have E := Lib.hid e; clear e
      go_enter Tryz.func120, Tryz.ntmps120
      go_wp2
      go_ret
      exact ⟨by rw [E.out]; rfl, ((Below.refl _ _).alloc (by simp) _).alloc (by simp) _⟩
  · have e : a.lt b = decide (a.kind < b.kind) := by simp [Key.lt, h1]
    have E := Lib.hid e; clear e
    go_enter Tryz.func120, Tryz.ntmps120
    go_wp2
    go_ret
    exact ⟨by rw [E.out]; rfl, ((Below.refl _ _).alloc (by simp) _).alloc (by simp) _⟩
end Go.Proofs.YtabdldfigjkfaaaGreatDoor
