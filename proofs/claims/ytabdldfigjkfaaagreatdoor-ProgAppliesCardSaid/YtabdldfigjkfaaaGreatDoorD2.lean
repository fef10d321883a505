import Derived.Test.YtabdldfigjkfaaaGreatDoorD1
import Derived.Lib.Strings
namespace Go.Proofs.YtabdldfigjkfaaaGreatDoor
open Go Go.RowKit

/-! graph.Ids and graph.TakeIds. -/
def idsS (l : List Int) : Str := l.foldl (fun s n => s ++ num4 (IntKind.u32.wrap n)) emp
theorem idsS_take (l : List Int) (n : Nat) (h : n < l.length) : idsS (l.take (n + 1)) = idsS (l.take n) ++ num4 (IntKind.u32.wrap l[n]) := by
  unfold idsS; rw [List.take_succ_eq_append_getElem h, List.foldl_append]; rfl
theorem wrap32 (n : Int) : 0 ≤ IntKind.u32.wrap n ∧ IntKind.u32.wrap n < 4294967296 := by
  have h0 : 0 ≤ n % 4294967296 := Int.emod_nonneg _ (by omega)
  have h1 : n % 4294967296 < 4294967296 := Int.emod_lt_of_pos _ (by omega)
  have : IntKind.u32.wrap n = n % 4294967296 := by simp [IntKind.wrap, IntKind.signed, IntKind.bits]
  rw [this]; exact ⟨h0, h1⟩
theorem size_app (a b : Str) : (a ++ b).size = a.size + b.size := by simp
set_option maxRecDepth 20000 in
set_option maxHeartbeats 1000000 in
theorem ids_c (l : List Int) (A : Option Addr) (c : Nat) (w : World) (hA : Arr w A (l.map I)) (hl : l.length ≤ 1099511627776) :
    Calls Tryz.prog 165 #[.slice A l.length c] w fun e w' => e = .returned (.string (idsS l)) ∧ Below w.heap.size w w' := by
  have HA := Lib.hid hA; clear hA
  go_enter Tryz.func165, Tryz.ntmps165
  go_wp2
  go_loopw [3, 8] (fun s i wr => ∃ (n : Nat) (q : Str), n ≤ l.length ∧ i = .int .i64 n ∧ s = .string q ∧ q.size = 4 * n ∧ Hid (q = idsS (l.take n)) ∧ Below w.heap.size w wr) (fun _ i _ => l.length - (intOf i).toNat)
  case atStart => exact ⟨0, emp, Nat.zero_le _, rfl, rfl, rfl, Lib.hid rfl, Below.refl _ _⟩
  case round =>
    obtain ⟨n, q, hn, rfl, rfl, hqs, hq, hb⟩ := hrel
    have HBel := Lib.hid hb; clear hb
    by_cases hlt : n < l.length
    · obtain ⟨b, o, rfl, hbz, d0⟩ := HA.out.int n hlt
      replace d0 := cell_keep HBel.out d0
      have hc := num_c (IntKind.u32.wrap l[n]) wr (wrap32 _).1 (wrap32 _).2
      have hE := Lib.hid (idsS_take l n hlt)
      have h4 : (num4 (IntKind.u32.wrap l[n])).size = 4 := rfl
      generalize hk : num4 (IntKind.u32.wrap l[n]) = k4 at *
      have hk := Lib.hid hk
      go_wp2_with (go_at_call 128; refine hc.mono ?_; rintro e w1 ⟨rfl, hb1⟩; have HB1 := Lib.hid hb1; clear hb1)
      go_roundw
      case rel => exact ⟨n + 1, q ++ k4, by omega, by go_num, rfl, by rw [size_app]; omega, Lib.hid (by rw [hE.out, ← hq.out]), below_then HBel.out HBel.out.size HB1.out⟩
      case measure => simp [intOf]; omega
    · obtain rfl : n = l.length := by omega
      go_wp2
      go_returns
      exact ⟨by rw [hq.out, List.take_length]; rfl, HBel.out⟩
/-- The numbers that bytes are. -/
def parseL : List UInt8 → Option (List Int)
  | [] => some []
  | a :: b :: c :: d :: r => if 16 ≤ IntKind.u32.wrap (lowL [a, b, c, d]) then none else (parseL r).map (IntKind.u32.wrap (lowL [a, b, c, d]) :: ·)
  | _ => none
def ascI (l : List Int) : Prop := ∀ i (h : i + 1 < l.length), l[i] < l[i + 1]
instance (l : List Int) : Decidable (ascI l) := decidable_of_iff (∀ i : Fin l.length, (h : i.1 + 1 < l.length) → l[i.1] < l[i.1 + 1]) ⟨fun h i hi => h ⟨i, by omega⟩ hi, fun h i hi => h i hi⟩
/-- graph.TakeIds' word. -/
def takeIds (s : Str) : List Int × Int := match parseL s.data.toList with
  | none => ([], 2)
  | some l => if ascI l then (l, 0) else ([], 2)
theorem parse_short (L : List UInt8) (h0 : L ≠ []) (h : L.length < 4) : parseL L = none := by
  rcases L with _ | ⟨a, _ | ⟨b, _ | ⟨c, _ | ⟨d, r⟩⟩⟩⟩
  · exact absurd rfl h0
  · rfl
  · rfl
  · rfl
  · simp only [List.length_cons] at h; omega
theorem parse_four (L : List UInt8) (h : 4 ≤ L.length) : parseL L = if 16 ≤ IntKind.u32.wrap (lowL (L.take 4)) then none else (parseL (L.drop 4)).map (IntKind.u32.wrap (lowL (L.take 4)) :: ·) := by
  rcases L with _ | ⟨a, _ | ⟨b, _ | ⟨c, _ | ⟨d, r⟩⟩⟩⟩
  · exact absurd h (by decide)
  · exact absurd h (by simp)
  · exact absurd h (by simp)
  · exact absurd h (by simp)
  · rfl
theorem parseL_short (s : Str) (h0 : s.size ≠ 0) (h : s.size < 4) : parseL s.data.toList = none :=
  parse_short _ (fun e => h0 (by rw [← str_len, e]; rfl)) (by rw [str_len]; exact h)
theorem rest_list (s : Str) : (restOf s).data.toList = s.data.toList.drop 4 := by
  unfold restOf
  rw [Lib.extract_data]
  exact List.take_of_length_le (by rw [List.length_drop, str_len]; omega)
theorem parseL_four (s : Str) (h : ¬ s.size < 4) : parseL s.data.toList = if 16 ≤ numOf s then none else (parseL (restOf s).data.toList).map (numOf s :: ·) := by
  rw [rest_list]
  exact parse_four _ (by rw [str_len]; omega)
theorem rest_size (s : Str) (_ : ¬ s.size < 4) : (restOf s).size = s.size - 4 := by unfold restOf; simp
theorem num_range (s : Str) : 0 ≤ numOf s ∧ numOf s < 4294967296 := wrap32 _
theorem takeIds_none (s : Str) (h : parseL s.data.toList = none) : takeIds s = ([], 2) := by unfold takeIds; rw [h]
theorem takeIds_some (s : Str) (l : List Int) (h : parseL s.data.toList = some l) (ha : ascI l) : takeIds s = (l, 0) := by unfold takeIds; rw [h]; simp only [if_pos ha]
theorem takeIds_odd (s : Str) (l : List Int) (h : parseL s.data.toList = some l) (ha : ¬ ascI l) : takeIds s = ([], 2) := by unfold takeIds; rw [h]; simp only [if_neg ha]
def ssize : Value → Nat
  | .string s => s.size
  | _ => 0
theorem info3 : (Tryz.prog.info? 3).map (fun i => (i.zero, i.size, i.bytes)) = some (some (I 0), 1, 8) := by kernel_rfl
set_option maxRecDepth 20000 in
set_option maxHeartbeats 1000000 in
theorem takeids_c (s : Str) (w : World) (hl : s.size ≤ 1099511627776) :
    Calls Tryz.prog 122 #[.string s] w fun e w' => ∃ v, e = .returned (.tuple #[v, I (takeIds s).2]) ∧ w'.ownsRow w.heap.size 3 1 v (takeIds s).1.length ((takeIds s).1.map I) ∧ Below w.heap.size w w' := by
  go_enter Tryz.func122, Tryz.ntmps122
  go_wp2
  go_loopw [0, 4] (fun z v wr => ∃ (t : Str) (q : List Int), z = .string t ∧ wr.ownsRow w.heap.size 3 1 v q.length (q.map I) ∧ Hid (parseL s.data.toList = (parseL t.data.toList).map (q ++ ·)) ∧ q.length * 4 + t.size = s.size ∧ Below w.heap.size w wr) (fun z _ _ => ssize z)
  case atStart => exact ⟨s, [], rfl, World.ownsRow_nil _ _ _ _, Lib.hid (by simp), by simp, Below.refl _ _⟩
  case round =>
    obtain ⟨t, q, rfl, ho, hp, hlen, hb⟩ := hrel
    obtain ⟨S, sc, rfl, har⟩ := own_arr ho
    have HO := Lib.hid ho
    have HA := Lib.hid har
    have HBel := Lib.hid hb
    clear ho hb har
    by_cases hemp : t = emp
    · obtain ⟨e1, e2, e3⟩ := isEmpty_t hemp
      have hp' := Lib.hid (show parseL s.data.toList = some q by rw [hp.out, hemp]; simp [emp, parseL])
      have hql : q.length ≤ 1099511627776 := by omega
      clear hemp
      go_wp2_with (fail)
      go_loopw [8] (fun i wr' => ∃ n : Nat, 1 ≤ n ∧ (n ≤ q.length ∨ n = 1) ∧ i = .int .i64 n ∧ Hid (∀ j (hj : j + 1 < q.length), j + 1 < n → q[j] < q[j + 1]) ∧ Below wr.heap.size wr wr') (fun i _ => q.length - (intOf i).toNat)
      case atStart => exact ⟨1, Nat.le_refl _, .inr rfl, rfl, Lib.hid (fun j hj h => by omega), Below.refl _ _⟩
      case round =>
        obtain ⟨n, hn1, hn, rfl, hs, hb⟩ := hrel
        have HBr := Lib.hid hb
        clear hb
        by_cases hlt : n < q.length
        · obtain ⟨b, o, rfl, hbz, d1⟩ := (HA.out.below HBr.out).int n hlt
          obtain ⟨b', o', he, _, d0⟩ := (HA.out.below HBr.out).int (n - 1) (by omega)
          injection he with he; injection he with he1 he2; subst he1; subst he2
          have hsub : ((n : Int) - 1).toNat = n - 1 := by omega
          by_cases hle : q[n] ≤ q[n - 1]
          · have HP := Lib.hid (takeIds_odd s q hp'.out (fun ha => by have := ha (n - 1) (by omega); simp only [show n - 1 + 1 = n by omega] at this; omega))
            go_wp2_with (fail)
            go_quiet (fail)
            go_wp2_with (fail)
            go_returns
            exact ⟨_, by rw [HP.out]; rfl, by rw [HP.out]; exact World.ownsRow_nil _ _ _ _, below_then HBel.out HBel.out.size (HBr.out.drewN _)⟩
          · go_wp2_with (fail)
            go_quiet (fail)
            go_wp2_with (fail)
            go_roundw
            case rel =>
              refine ⟨n + 1, by omega, by omega, by go_num, Lib.hid (fun j hj h => ?_), HBr.out.drewN _⟩
              rcases Nat.lt_succ_iff_lt_or_eq.1 h with h | h
              · exact hs.out j hj h
              · have : j = n - 1 := by omega
                subst this
                simp only [show n - 1 + 1 = n by omega]; omega
            case measure => simp [intOf]; omega
        · have HP := Lib.hid (takeIds_some s q hp'.out (fun i hi => hs.out i hi (by omega)))
          go_wp2_with (fail)
          go_returns
          exact ⟨_, by rw [HP.out]; rfl, own_cast (own_below HO.out HBr.out) (by rw [HP.out]) (by rw [HP.out]), below_then HBel.out HBel.out.size HBr.out⟩
    · obtain ⟨e1, e2⟩ := isEmpty_f hemp
      have hc := takenum_c t wr (by omega)
      by_cases h4 : t.size < 4
      · rw [if_pos h4] at hc
        have HP := Lib.hid (takeIds_none s (by rw [hp.out, parseL_short t (fun h => hemp (by
          obtain ⟨⟨x⟩⟩ := t; cases x with
          | nil => rfl
          | cons a x => simp [ByteArray.size] at h)) h4]; rfl))
        clear hemp
        go_wp2_with (go_at_call 195; refine hc.mono ?_; rintro e w1 ⟨rfl, hb1⟩; have HB1 := Lib.hid hb1; clear hb1)
        go_returns
        exact ⟨_, by rw [HP.out]; rfl, by rw [HP.out]; exact World.ownsRow_nil _ _ _ _, below_then HBel.out HBel.out.size HB1.out⟩
      · rw [if_neg h4] at hc
        have hf := parseL_four t h4
        by_cases h16 : 16 ≤ numOf t
        · rw [if_pos h16] at hf
          have HP := Lib.hid (takeIds_none s (by rw [hp.out, hf]; rfl))
          clear hemp hf
          go_wp2_with (go_at_call 195; refine hc.mono ?_; rintro e w1 ⟨rfl, hb1⟩; have HB1 := Lib.hid hb1; clear hb1)
          go_returns
          exact ⟨_, by rw [HP.out]; rfl, by rw [HP.out]; exact World.ownsRow_nil _ _ _ _, below_then HBel.out HBel.out.size HB1.out⟩
        · rw [if_neg h16] at hf
          have HF := Lib.hid hf
          have hr := rest_size t h4
          have hn0 := (num_range t).1
          clear hemp hf
          generalize hx : numOf t = x at *
          generalize hy : restOf t = y at *
          have hx := Lib.hid hx
          have hy := Lib.hid hy
          go_wp2_with (first
            | (go_at_call 195; refine hc.mono ?_; rintro e w1 ⟨rfl, hb1⟩; have HB1 := Lib.hid hb1; clear hb1)
            | (at_builtin; refine app1 w.heap.size rfl _ _ 32 3 _ 1 8 rfl Tryz.underlying32 info3 rfl (by decide) (by decide) (own_below HO.out HB1.out) [I x] rfl rfl (by simp [Value.oneCell']) rfl (Nat.le_trans HBel.out.size HB1.out.size) (by omega) ?_; intro v1 w5 hown5 hb5 _; have HO5 := Lib.hid hown5; clear hown5; have HB5 := Lib.hid hb5; clear hb5))
          go_roundw
          case rel =>
            refine ⟨y, q ++ [x], rfl, own_cast HO5.out (by simp) (by simp), Lib.hid ?_, by simp; omega, (below_then HBel.out HBel.out.size HB1.out).trans HB5.out⟩
            rw [hp.out, HF.out]
            cases parseL y.data.toList <;> simp
          case measure =>
            show y.size < t.size
            omega
end Go.Proofs.YtabdldfigjkfaaaGreatDoor
