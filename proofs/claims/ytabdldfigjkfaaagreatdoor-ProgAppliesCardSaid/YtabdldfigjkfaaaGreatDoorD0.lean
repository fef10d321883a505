import Derived.Test.YtabdldfigjkfaaaGreatDoorC2
namespace Go.Proofs.YtabdldfigjkfaaaGreatDoor
open Go Go.RowKit

/-! Numbers as bytes. -/
theorem make236 (w : World) (c : Nat) (hc : c ≤ 1000) : (Instr.makeSlice 236 (.int .i64 c) (.int .i64 c)).run Tryz.prog w = .ok (.slice (some ⟨w.heap.size, 0, none⟩) c c) (w.alloc (.cells (madeCells (Value.int .u8 0).cells c) 5)) := by
  have hi : (Tryz.prog.info? 5).map (fun i => (i.zero, i.size, i.bytes)) = some (some (.int .u8 0), 1, 1) := by kernel_rfl
  obtain ⟨i0, h0, hz⟩ := Option.map_eq_some_iff.1 hi
  simp only [Prod.mk.injEq] at hz
  obtain ⟨z0, z1, z2⟩ := hz
  have := run_makeSlice (P := Tryz.prog) w 236 5 i0 _ Tryz.underlying236 h0 z0 .i64 .i64 c c (by omega) (Int.le_refl _) (by rw [z1]; omega) (by rw [z2]; omega) (by omega)
  rw [z1] at this
  simpa using this
abbrev B8 (n : Int) : Value := .int .u8 n
def hi (n : Int) (k : Nat) : Int := n / (256 ^ k : Nat) % 256
def hiC (n : Int) : Nat → Array Value
  | 0 => #[B8 0, B8 0, B8 0, B8 0]
  | 1 => #[B8 0, B8 0, B8 0, B8 (hi n 0)]
  | 2 => #[B8 0, B8 0, B8 (hi n 1), B8 (hi n 0)]
  | 3 => #[B8 0, B8 (hi n 2), B8 (hi n 1), B8 (hi n 0)]
  | _ => #[B8 (hi n 3), B8 (hi n 2), B8 (hi n 1), B8 (hi n 0)]
def hb (n : Int) (k : Nat) : UInt8 := UInt8.ofNat (hi n k).toNat
theorem hb_hi (n : Int) (k : Nat) : ((hb n k).toNat : Int) = hi n k := by
  unfold hb
  have h0 : 0 ≤ hi n k := Int.emod_nonneg _ (by omega)
  have h1 : hi n k < 256 := Int.emod_lt_of_pos _ (by omega)
  rw [UInt8.toNat_ofNat', Nat.mod_eq_of_lt (by omega)]
  omega
/-- A number as four bytes. -/
def num4 (n : Int) : Str := ⟨#[hb n 3, hb n 2, hb n 1, hb n 0]⟩
theorem back4 (n : Int) (w : World) : (convert 236 9 (.slice (some ⟨w.heap.size, 0, none⟩) 4 4)).run Tryz.prog (w.alloc (.cells #[B8 (hi n 3), B8 (hi n 2), B8 (hi n 1), B8 (hi n 0)] 5)) = .ok (.string (num4 n)) (w.alloc (.cells #[B8 (hi n 3), B8 (hi n 2), B8 (hi n 1), B8 (hi n 0)] 5)) := by
  refine run_convert_bytes_back (P := Tryz.prog) _ 236 9 5 ⟨w.heap.size, 0, none⟩ 4 [hb n 3, hb n 2, hb n 1, hb n 0] Tryz.underlying236 Tryz.underlying5 Tryz.underlying9 ?_
  intro j hj
  have hj : j < 4 := hj
  rw [show (⟨w.heap.size, 0, none⟩ : Addr).add j = ⟨w.heap.size, j, none⟩ by unfold Addr.add; split <;> simp_all]
  rcases j with _ | _ | _ | _ | j
  · simp [hb_hi]
  · simp [hb_hi]
  · simp [hb_hi]
  · simp [hb_hi]
  · omega
set_option maxRecDepth 20000 in
set_option maxHeartbeats 1000000 in
theorem high4_c (n : Int) (w : World) (_ : 0 ≤ n) (_ : n < 18446744073709551616) :
    Calls Tryz.prog 202 #[.int .u64 n, .int .i64 4] w fun e w' => e = .returned (.string (num4 n)) ∧ Below w.heap.size w w' := by
  have hmk : (Instr.makeSlice 236 (.int .i64 4) (.int .i64 4)).run Tryz.prog w = .ok (.slice (some ⟨w.heap.size, 0, none⟩) 4 4) (w.alloc (.cells #[B8 0, B8 0, B8 0, B8 0] 5)) := (make236 w 4 (by omega)).trans (by kernel_rfl)
  have hbk := back4 n w
  go_enter Tryz.func202, Tryz.ntmps202
  go_wp2
  go_loopw [10] (fun i wr => ∃ k : Nat, k ≤ 4 ∧ i = I k ∧ wr = w.alloc (.cells (hiC n k) 5)) (fun i _ => 4 - (intOf i).toNat)
  case atStart => exact ⟨0, by omega, rfl, rfl⟩
  case round =>
    clear hmk
    obtain ⟨k, hk, rfl, rfl⟩ := hrel
    rcases k with _ | _ | _ | _ | k
    · show Code.wp _ _ _ _ (w.alloc (.cells #[B8 0, B8 0, B8 0, B8 0] 5))
      have e : n % 256 = hi n 0 := by simp [hi]
      go_wp2
      go_roundw
      case rel => exact ⟨1, by omega, rfl, rfl⟩
      case measure => simp [intOf]
    · show Code.wp _ _ _ _ (w.alloc (.cells #[B8 0, B8 0, B8 0, B8 (hi n 0)] 5))
      go_wp2
      have e : n / 256 % 256 = hi n 1 := by simp [hi]
      go_roundw
      case rel => exact ⟨2, by omega, rfl, by rw [e]; rfl⟩
      case measure => simp [intOf]
    · show Code.wp _ _ _ _ (w.alloc (.cells #[B8 0, B8 0, B8 (hi n 1), B8 (hi n 0)] 5))
      go_wp2
      have e : n / 65536 % 256 = hi n 2 := by simp [hi]
      go_roundw
      case rel => exact ⟨3, by omega, rfl, by rw [e]; rfl⟩
      case measure => simp [intOf]
    · show Code.wp _ _ _ _ (w.alloc (.cells #[B8 0, B8 (hi n 2), B8 (hi n 1), B8 (hi n 0)] 5))
      go_wp2
      have e : n / 16777216 % 256 = hi n 3 := by simp [hi]
      go_roundw
      case rel => exact ⟨4, by omega, rfl, by rw [e]; rfl⟩
      case measure => simp [intOf]
    · obtain rfl : k = 0 := by omega
      show Code.wp _ _ _ _ (w.alloc (.cells #[B8 (hi n 3), B8 (hi n 2), B8 (hi n 1), B8 (hi n 0)] 5))
      go_wp2
      go_returns
      exact ⟨rfl, (Below.refl _ _).alloc (Nat.le_refl _) _⟩
theorem num_c (n : Int) (w : World) (h0 : 0 ≤ n) (h1 : n < 4294967296) :
    Calls Tryz.prog 128 #[.int .u32 n] w fun e w' => e = .returned (.string (num4 n)) ∧ Below w.heap.size w w' := by
  have hc := high4_c n w h0 (by omega)
  have hwr : n % 18446744073709551616 = n := Int.emod_eq_of_lt h0 (by omega)
  go_enter Tryz.func128, Tryz.ntmps128
  go_wp2_with (go_at_call 202; refine hc.mono ?_; rintro e w1 ⟨rfl, hb1⟩; have HB1 := Lib.hid hb1; clear hb1)
  go_returns
  exact ⟨rfl, HB1.out⟩
end Go.Proofs.YtabdldfigjkfaaaGreatDoor
