import Derived.Test.YtabdldfigjkfaaaGreatDoorD0
namespace Go.Proofs.YtabdldfigjkfaaaGreatDoor
open Go Go.RowKit

/-- Bytes as a number, in words of 64 bits. -/
def lowL (l : List UInt8) : Int := l.foldl (fun x b => bits BinOp.or IntKind.u64 (IntKind.u64.wrap (x * 256)) (IntKind.u64.wrap b.toNat)) 0
theorem str_len (s : Str) : s.data.toList.length = s.size := rfl
theorem take_byte (s : Str) (n : Nat) (h : n < s.size) : s.data.toList.take (n + 1) = s.data.toList.take n ++ [s[n]] := by
  rw [List.take_succ_eq_append_getElem (by rw [str_len]; exact h)]; rfl
theorem lowL_take (s : Str) (n : Nat) (h : n < s.size) : lowL (s.data.toList.take (n + 1)) = bits BinOp.or IntKind.u64 (IntKind.u64.wrap (lowL (s.data.toList.take n) * 256)) (IntKind.u64.wrap s[n].toNat) := by
  rw [take_byte s n h]; unfold lowL; rw [List.foldl_append]; rfl
theorem take_all (s : Str) : s.data.toList.take s.size = s.data.toList := by rw [← str_len, List.take_length]

set_option maxRecDepth 20000 in
set_option maxHeartbeats 1000000 in
theorem low_c (s : Str) (w : World) (hl : s.size ≤ 1099511627776) :
    Calls Tryz.prog 236 #[.string s] w fun e w' => e = .returned (.int .u64 (lowL s.data.toList)) ∧ w' = w := by
  go_enter Tryz.func236, Tryz.ntmps236
  go_wp2
  go_loop [3, 7] (fun v i => ∃ (n : Nat) (x : Int), n ≤ s.size ∧ i = .int .i64 n ∧ v = .int .u64 x ∧ Hid (x = lowL (s.data.toList.take n))) (fun _ i => s.size - (intOf i).toNat)
  case atStart => exact ⟨0, 0, Nat.zero_le _, rfl, rfl, Lib.hid rfl⟩
  case round =>
    obtain ⟨n, x, hn, rfl, rfl, hx⟩ := hrel
    by_cases hlt : n < s.size
    · go_wp2
      go_round
      case rel => exact ⟨n + 1, _, by omega, by go_num, rfl, Lib.hid (by rw [lowL_take s n hlt, ← hx.out])⟩
      case measure => simp [intOf]; omega
    · obtain rfl : n = s.size := by omega
      go_wp2
      go_returns
      exact ⟨by rw [← take_all, ← hx.out]; rfl, rfl⟩
def numOf (s : Str) : Int := IntKind.u32.wrap (lowL (s.data.toList.take 4))
def restOf (s : Str) : Str := s.extract 4 s.size
set_option maxRecDepth 20000 in
set_option maxHeartbeats 1000000 in
theorem takenum_c (s : Str) (w : World) (hl : s.size ≤ 1099511627776) :
    Calls Tryz.prog 195 #[.string s] w fun e w' => e = .returned (if s.size < 4 then .tuple #[.int .u32 0, .string emp, I 2] else .tuple #[.int .u32 (numOf s), .string (restOf s), I 0]) ∧ Below w.heap.size w w' := by
  by_cases h : s.size < 4
  · rw [if_pos h]
    go_enter Tryz.func195, Tryz.ntmps195
    go_wp2
    go_returns
    exact ⟨rfl, Below.refl _ _⟩
  · rw [if_neg h]
    go_enter Tryz.func195, Tryz.ntmps195
    go_wp2_with (fail)
    refine wp_region_still_tail 8 (by kernel_rfl) (by kernel_rfl) ?_
    simp only [List.take_succ_cons, List.take_zero, List.drop_succ_cons, List.drop_zero]
    repeat (first | still_step | still_call (low_c _ _ (by simp; omega)))
    refine wpStill_nil ?_
    change wpList _ _ _ _ _ w.drew
    go_wp2
    go_returns
    exact ⟨rfl, (Below.refl _ _).drew⟩
end Go.Proofs.YtabdldfigjkfaaaGreatDoor
