import Derived.Test.YtabdldfigjkfaaaGreatDoorE0
namespace Go.Proofs.YtabdldfigjkfaaaGreatDoor
open Go Go.RowKit

/-- Bytes as a count. -/
def cntL (l : List UInt8) : Int := l.foldl (fun x b => bits BinOp.or IntKind.i64 (wrap64 (x * 256)) (wrap64 b.toNat)) 0
theorem cntL_take (s : Str) (n : Nat) (h : n < s.size) : cntL (s.data.toList.take (n + 1)) = bits BinOp.or IntKind.i64 (wrap64 (cntL (s.data.toList.take n) * 256)) (wrap64 s[n].toNat) := by
  rw [take_byte s n h]; unfold cntL; rw [List.foldl_append]; rfl
def cntM (m : KM) : Int := cntL (mget m ⟨7, 0, 0⟩).data.toList
set_option maxRecDepth 20000 in
set_option maxHeartbeats 1000000 in
theorem count_c (j g r : Nat) (m : KM) (w : World) (hG : GraphAt w g r m) (hj : w.cell? ⟨j, 0, none⟩ = some (sto g)) (hs : (mget m ⟨7, 0, 0⟩).size ≤ 1099511627776) :
    Calls Tryz.prog 56 #[ptr j] w fun e w' => e = .returned (I (cntM m)) ∧ Below w.heap.size w w' := by
  have HG := Lib.hid (fun w' (h : Below w.heap.size w w') => hG.below h)
  clear hG
  go_enter Tryz.func56, Tryz.ntmps56
  go_wp2_with (fail)
  go_region_held3 (fun W' => Below w.heap.size w W' ∧ W'.cell? ⟨j, 0, none⟩ = some (sto g))
    (first | exact ⟨(Below.refl _ _).drew, hj⟩ | exact heldStep1 (by assumption) (by assumption))
    (first
      | (go_at_call 110; refine (key_c _ _ _ _).mono ?_; rintro e w3 ⟨rfl, hb3⟩)
      | (go_at_call 65; refine (gget_c g r m ⟨7, 0, 0⟩ _ ?_).mono ?_; (exact HG.out _ (And.left (by assumption))); rintro e w4 ⟨rfl, hb4⟩))
  rename_i hH
  have HH := Lib.hid hH.1
  clear hH
  generalize hs' : mget m ⟨7, 0, 0⟩ = s at *
  have hc : cntM m = cntL s.data.toList := by unfold cntM; rw [hs']
  have HC := Lib.hid hc
  clear hc hs'
  go_wp2_with (fail)
  go_loop [4, 16] (fun v i => ∃ (n : Nat) (x : Int), n ≤ s.size ∧ i = .int .i64 n ∧ v = .int .i64 x ∧ Hid (x = cntL (s.data.toList.take n))) (fun _ i => s.size - (intOf i).toNat)
  case atStart => exact ⟨0, 0, Nat.zero_le _, rfl, rfl, Lib.hid rfl⟩
  case round =>
    obtain ⟨n, x, hn, rfl, rfl, hx⟩ := hrel
    by_cases hlt : n < s.size
    · go_wp2
      go_round
      case rel => exact ⟨n + 1, _, by omega, by go_num, rfl, Lib.hid (by rw [cntL_take s n hlt, ← hx.out])⟩
      case measure => simp [intOf]; omega
    · obtain rfl : n = s.size := by omega
      go_wp2
      go_returns
      exact ⟨by rw [HC.out, ← take_all, ← hx.out]; rfl, HH.out⟩
end Go.Proofs.YtabdldfigjkfaaaGreatDoor
