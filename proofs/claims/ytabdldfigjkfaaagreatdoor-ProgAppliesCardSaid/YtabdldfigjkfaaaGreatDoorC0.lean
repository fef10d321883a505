import Derived.Test.YtabdldfigjkfaaaGreatDoorB5
namespace Go.Proofs.YtabdldfigjkfaaaGreatDoor
open Go Go.RowKit

/-! Values: '==' and May. -/
theorem eqA24 (d : Nat) (w : World) (x0 y0 x1 y1 : Int) (x2 y2 : ByteArray) :
    (Op.equalIn (d + 2) 24 (.agg #[I x0, I x1, .string x2]) (.agg #[I y0, I y1, .string y2])).run Tryz.prog w = .ok (decide (x0 = y0 ∧ x1 = y1 ∧ x2 = y2)) w := by
  have h : (Op.equalIn (d + 2) 24 (.agg #[I x0, I x1, .string x2]) (.agg #[I y0, I y1, .string y2])).run Tryz.prog w = .ok (x0 == y0 && (x1 == y1 && (x2.toList == y2.toList))) w := by
    refine eqA_of Tryz.underlying24 (by kernel_rfl) ?_
    refine eqf_cons (by rfl) (by go_simp; rfl) (by go_simp; rfl) (by go_simp) ?_
    refine eqf_cons (by rfl) (by go_simp; rfl) (by go_simp; rfl) (by go_simp) ?_
    exact eqf_last (by rfl) (by go_simp; rfl) (by go_simp; rfl) (by go_simp)
  refine h.trans (congrArg (fun q => Result.ok q w) ?_)
  rw [str_beq]
  by_cases h0 : x0 = y0 <;> by_cases h1 : x1 = y1 <;> by_cases h2 : x2 = y2 <;> simp [h0, h1, h2]
theorem guard24 : Tryz.prog.eqGuardType Tryz.prog.depth 24 = false := by kernel_rfl
def valEq (x0 x1 : Int) (x2 : ByteArray) (y0 y1 : Int) (y2 : ByteArray) : Bool := decide (x0 = y0 ∧ x1 = y1 ∧ x2 = y2)
theorem valEq_iff (a b : Val) : valEq a.t a.n a.s b.t b.n b.s = decide (a = b) := by cases a; cases b; simp [valEq]
section
variable (w : World) (x0 y0 x1 y1 : Int) (x2 y2 : ByteArray)
@[go_sem] theorem guardR24 (op : BinOp) (x y : Operand) (xs ys : Array Value) : (eqGuard op 24 x y (.agg xs) (.agg ys)).run Tryz.prog w = .ok () w := run_eqGuard_agg w op 24 x y xs ys guard24
@[go_sem high] theorem eql24 : (binOp .eql 24 (.agg #[I x0, I x1, .string x2]) (.agg #[I y0, I y1, .string y2])).run Tryz.prog w = .ok (.bool (valEq x0 x1 x2 y0 y1 y2)) w := by
  rw [run_eql_struct, eqA24 9998]; rfl
@[go_sem high] theorem neq24 : (binOp .neq 24 (.agg #[I x0, I x1, .string x2]) (.agg #[I y0, I y1, .string y2])).run Tryz.prog w = .ok (.bool (!valEq x0 x1 x2 y0 y1 y2)) w := by
  rw [run_neq_struct, eqA24 9998]; rfl
end
def bit1 (n : Int) : Int := bits BinOp.and IntKind.i64 n 1
def mayV (v : Val) : Bool :=
  if v.t = 0 then valEq v.t v.n v.s 0 0 emp else if v.t = 1 then valEq v.t v.n v.s v.t v.n emp
  else if v.t = 2 then (if valEq v.t v.n v.s v.t 0 v.s then decide (v.s.size ≤ 16) else false)
  else if v.t = 3 then valEq v.t v.n v.s v.t (bit1 v.n) emp else false

set_option maxRecDepth 20000 in
set_option maxHeartbeats 1000000 in
theorem may_c (v : Val) (w : World) : Calls Tryz.prog 93 #[v.val] w fun e w' => e = .returned (.bool (mayV v)) ∧ Below w.heap.size w w' := by
  by_cases h0 : v.t = 0
  · have e : mayV v = valEq v.t v.n v.s 0 0 emp := by unfold mayV; rw [if_pos h0]
    have E := Lib.hid e; clear e
    have h0' : (v.t == 0) = true := by simp [h0]
    clear h0
    go_enter Tryz.func93, Tryz.ntmps93
    go_wp2
    go_ret
    exact ⟨by rw [E.out]; rfl, (Below.refl _ _).alloc (Nat.le_refl _) _⟩
  have h0' : (v.t == 0) = false := by simp [h0]
  by_cases h1 : v.t = 1
  · have e : mayV v = valEq v.t v.n v.s v.t v.n emp := by unfold mayV; rw [if_neg h0, if_pos h1]
    have E := Lib.hid e; clear e
    have h1' : (v.t == 1) = true := by simp [h1]
    clear h0 h1
    go_enter Tryz.func93, Tryz.ntmps93
    go_wp2
    go_ret
    exact ⟨by rw [E.out]; rfl, (Below.refl _ _).alloc (Nat.le_refl _) _⟩
  have h1' : (v.t == 1) = false := by simp [h1]
  by_cases h2 : v.t = 2
  · have e : mayV v = if valEq v.t v.n v.s v.t 0 v.s then decide (v.s.size ≤ 16) else false := by unfold mayV; rw [if_neg h0, if_neg h1, if_pos h2]
    have E := Lib.hid e; clear e
    have h2' : (v.t == 2) = true := by simp [h2]
    clear h0 h1 h2
    cases hq : valEq v.t v.n v.s v.t 0 v.s with
    | true =>
      rw [hq] at E
      go_enter Tryz.func93, Tryz.ntmps93
      go_wp2
      go_ret
      exact ⟨by rw [E.out]; simp; omega, (Below.refl _ _).alloc (Nat.le_refl _) _⟩
    | false =>
      rw [hq] at E
      go_enter Tryz.func93, Tryz.ntmps93
      go_wp2
      go_ret
      exact ⟨by rw [E.out]; rfl, (Below.refl _ _).alloc (Nat.le_refl _) _⟩
  have h2' : (v.t == 2) = false := by simp [h2]
  by_cases h3 : v.t = 3
  · have e : mayV v = valEq v.t v.n v.s v.t (bit1 v.n) emp := by unfold mayV; rw [if_neg h0, if_neg h1, if_neg h2, if_pos h3]
    have E := Lib.hid e; clear e
    have h3' : (v.t == 3) = true := by simp [h3]
    clear h0 h1 h2 h3
    go_enter Tryz.func93, Tryz.ntmps93
    go_wp2
    go_ret
    exact ⟨by rw [E.out]; rfl, (Below.refl _ _).alloc (Nat.le_refl _) _⟩
  have h3' : (v.t == 3) = false := by simp [h3]
  have e : mayV v = false := by unfold mayV; rw [if_neg h0, if_neg h1, if_neg h2, if_neg h3]
  have E := Lib.hid e; clear e
  clear h0 h1 h2 h3
  go_enter Tryz.func93, Tryz.ntmps93
  go_wp2
  go_ret
  exact ⟨by rw [E.out]; rfl, (Below.refl _ _).alloc (Nat.le_refl _) _⟩
end Go.Proofs.YtabdldfigjkfaaaGreatDoor
