import Derived.Test.YtabdldfigjkfaaaGreatDoorG4
namespace Go.Proofs.YtabdldfigjkfaaaGreatDoor
open Go Go.RowKit

/-! The law ProgApplies, over an awake that tells true. -/
def Awake (f : Nat) : Prop := ∀ w : World, Calls Tryz.prog f #[] w fun e w' => e = .returned (.bool true) ∧ Below w.heap.size w w'
set_option maxRecDepth 20000 in
set_option maxHeartbeats 2000000 in
theorem applies_c (haw : Awake 22) (l m : List Wr) (A B : Option Addr) (c d : Nat) (w : World) (hA : Arr w A (l.flatMap Wr.cs)) (hB : Arr w B (m.flatMap Wr.cs)) :
    Calls Tryz.prog 6 #[.slice A l.length c, .slice B m.length d] w fun e w' => e = .returned (.bool true) ∧ Below w.heap.size w w' := by
  have HA := Lib.hid hA; clear hA
  have HB := Lib.hid hB; clear hB
  have hup := haw w
  clear haw
  by_cases h1 : 60 < l.length
  · go_enter Tryz.func6, Tryz.ntmps6
    go_wp2_with (go_at_call 22; refine hup.mono ?_; rintro e w1 ⟨rfl, hb1⟩; have HB1 := Lib.hid hb1; clear hb1)
    go_returns
    exact ⟨rfl, HB1.out⟩
  by_cases h2 : 60 < m.length
  · go_enter Tryz.func6, Tryz.ntmps6
    go_wp2_with (go_at_call 22; refine hup.mono ?_; rintro e w1 ⟨rfl, hb1⟩; have HB1 := Lib.hid hb1; clear hb1)
    go_returns
    exact ⟨rfl, HB1.out⟩
  have hl : l.length ≤ 1099511627776 := by omega
  have hm : m.length ≤ 1099511627776 := by omega
  have hR : Rel (applyW [] l) (applyM [] l) := Rel.nil.apply l
  have hR2 := hR.apply m
  have hxl := applyW_len [] l
  have hyl := applyW_len (applyW [] l) m
  have HR := Lib.hid hR
  have HR2 := Lib.hid hR2
  have hml : (applyM [] l).length ≤ 60 := by rw [← hR.len]; simp at hxl; omega
  have hml2 : (applyM (applyM [] l) m).length ≤ 120 := by rw [← hR2.len]; simp at hxl; omega
  clear hR hR2
  have hN := fun w (h : Arr w A (l.flatMap Wr.cs)) => new14_c l A c w h hl
  have hGN := fun w (h : Arr w A (l.flatMap Wr.cs)) => gnew_c l A c w h hl
  have hAP := fun g r w (hg : GraphAt w g r (applyM [] l)) (h : Arr w B (m.flatMap Wr.cs)) => papply_c m B d g r (applyM [] l) w hg h hm
  have hA16 := fun X cx w (h0 : Arr w X ((applyW [] l).flatMap Wr.cs)) (h : Arr w B (m.flatMap Wr.cs)) => apply16_c (applyW [] l) m X B cx d w h0 h (by simp at hxl; omega) (by omega)
  generalize applyW [] l = x at *
  generalize applyM [] l = gm at *
  generalize applyW x m = y at *
  generalize applyM gm m = gy at *
  have hx40 : x.length ≤ 60 := by simp at hxl; omega
  have hy40 : y.length ≤ 120 := by rw [HR2.out.len]; exact hml2
  have HN := Lib.hid hN
  have HGN := Lib.hid hGN
  have HAP := Lib.hid hAP
  have HA16 := Lib.hid hA16
  clear hyl hxl hN hGN hAP hA16
  go_enter Tryz.func6, Tryz.ntmps6
  go_wp2_with (go_at_call 22; refine hup.mono ?_; rintro e w1 ⟨rfl, hb1⟩; have HB1 := Lib.hid hb1; clear hb1)
  have HA1 := Lib.hid (HA.out.below HB1.out)
  have HM1 := Lib.hid (HB.out.below HB1.out)
  refine (HN.out w1 HA1.out).mono ?_
  rintro e w2 ⟨s, rfl, ho2, hb2⟩
  obtain ⟨X, cx, rfl, hx2⟩ := own_arr ho2
  have HX2 := Lib.hid hx2
  have HA2 := Lib.hid (HA1.out.below hb2)
  have HM2 := Lib.hid (HM1.out.below hb2)
  have HB2 := Lib.hid (below_then HB1.out HB1.out.size hb2)
  clear ho2 hb2 hx2
  go_wp2_with (fail)
  refine (HGN.out w2 HA2.out).mono ?_
  rintro e w3 ⟨g1, r1, rfl, hg3, -, -, hb3⟩
  have HG3 := Lib.hid hg3
  have HX3 := Lib.hid (HX2.out.below hb3)
  have HM3 := Lib.hid (HM2.out.below hb3)
  have HB3 := Lib.hid (below_then HB2.out HB2.out.size hb3)
  clear hg3 hb3
  go_wp2_with (fail)
  refine (HAP.out g1 r1 w3 HG3.out HM3.out).mono ?_
  rintro e w4 ⟨g2, r2, rfl, hg4, -, -, hb4⟩
  have HG4 := Lib.hid (HG3.out.below hb4)
  have HH4 := Lib.hid hg4
  have HX4 := Lib.hid (HX3.out.below hb4)
  have HM4 := Lib.hid (HM3.out.below hb4)
  have HB4 := Lib.hid (below_then HB3.out HB3.out.size hb4)
  clear hg4 hb4
  go_wp2_with (fail)
  refine (gall_c g2 r2 gy w4 HH4.out (by omega)).mono ?_
  rintro e w5 ⟨q1, v1, hq1, rfl, ho5, hb5⟩
  obtain rfl := HR2.out.all hq1
  obtain ⟨Q1, c1, rfl, ha5⟩ := own_arr ho5
  have HQ5 := Lib.hid ha5
  have HG5 := Lib.hid (HG4.out.below hb5)
  have HH5 := Lib.hid (HH4.out.below hb5)
  have HX5 := Lib.hid (HX4.out.below hb5)
  have HM5 := Lib.hid (HM4.out.below hb5)
  have HB5 := Lib.hid (below_then HB4.out HB4.out.size hb5)
  clear hq1 ho5 hb5 ha5
  go_wp2_with (fail)
  refine (HA16.out X cx w5 HX5.out HM5.out).mono ?_
  rintro e w6 ⟨Q2, c2, rfl, ha6, hb6⟩
  have HQ6 := Lib.hid ha6
  have HQ1 := Lib.hid (HQ5.out.below hb6)
  have HG6 := Lib.hid (HG5.out.below hb6)
  have HH6 := Lib.hid (HH5.out.below hb6)
  have HX6 := Lib.hid (HX5.out.below hb6)
  have HM6 := Lib.hid (HM5.out.below hb6)
  have HB6 := Lib.hid (below_then HB5.out HB5.out.size hb6)
  clear ha6 hb6
  go_wp2_with (fail)
  refine (writes16_c q1 q1 Q1 Q2 c1 c2 w6 HQ1.out HQ6.out (by omega) (by omega)).mono ?_
  rw [decide_eq_true rfl]
  rintro e w7 ⟨rfl, hb7⟩
  have HG7 := Lib.hid (HG6.out.below hb7)
  have HH7 := Lib.hid (HH6.out.below hb7)
  have HX7 := Lib.hid (HX6.out.below hb7)
  have HM7 := Lib.hid (HM6.out.below hb7)
  have HB7 := Lib.hid (below_then HB6.out HB6.out.size hb7)
  clear hb7
  go_wp2_with (fail)
  refine (gall_c g1 r1 gm w7 HG7.out (by omega)).mono ?_
  rintro e w8 ⟨q2, v2, hq2, rfl, ho8, hb8⟩
  obtain rfl := HR.out.all hq2
  obtain ⟨Q3, c3, rfl, ha8⟩ := own_arr ho8
  have HQ8 := Lib.hid ha8
  have HG8 := Lib.hid (HG7.out.below hb8)
  have HH8 := Lib.hid (HH7.out.below hb8)
  have HX8 := Lib.hid (HX7.out.below hb8)
  have HM8 := Lib.hid (HM7.out.below hb8)
  have HB8 := Lib.hid (below_then HB7.out HB7.out.size hb8)
  clear hq2 ho8 hb8 ha8
  go_wp2_with (fail)
  refine (writes16_c q2 q2 Q3 X c3 cx w8 HQ8.out HX8.out (by omega) (by omega)).mono ?_
  rw [decide_eq_true rfl]
  rintro e w9 ⟨rfl, hb9⟩
  have HG9 := Lib.hid (HG8.out.below hb9)
  have HH9 := Lib.hid (HH8.out.below hb9)
  have HX9 := Lib.hid (HX8.out.below hb9)
  have HM9 := Lib.hid (HM8.out.below hb9)
  have HB9 := Lib.hid (below_then HB8.out HB8.out.size hb9)
  clear hb9
  go_wp2_with (fail)
  refine (peffect_c g1 r1 g2 r2 gm gy w9 HG9.out HH9.out (by omega) (by omega)).mono ?_
  rintro e wa ⟨z, v3, hz, rfl, hoa, hba⟩
  obtain rfl := HR.out.eff HR2.out hz
  obtain ⟨Z, cz, rfl, haa⟩ := own_arr hoa
  have HZa := Lib.hid haa
  have HHa := Lib.hid (HH9.out.below hba)
  have HXa := Lib.hid (HX9.out.below hba)
  have HMa := Lib.hid (HM9.out.below hba)
  have HBa := Lib.hid (below_then HB9.out HB9.out.size hba)
  clear hz hoa hba haa
  go_wp2_with (fail)
  refine (gall_c g2 r2 gy wa HHa.out (by omega)).mono ?_
  rintro e wb ⟨q3, v4, hq3, rfl, hob, hbb⟩
  have hq3e := HR2.out.all hq3
  subst hq3e
  obtain ⟨Q4, c4, rfl, hab⟩ := own_arr hob
  have HQb := Lib.hid hab
  have HZb := Lib.hid (HZa.out.below hbb)
  have HXb := Lib.hid (HXa.out.below hbb)
  have HMb := Lib.hid (HMa.out.below hbb)
  have HBb := Lib.hid (below_then HBa.out HBa.out.size hbb)
  clear hq3 hob hbb hab
  go_wp2_with (fail)
  refine (effect16_c q2 q3 X Q4 cx c4 wb HXb.out HQb.out (by omega) (by omega)).mono ?_
  rintro e wc ⟨v5, rfl, hoc, hbc⟩
  obtain ⟨Q5, c5, rfl, hac⟩ := own_arr hoc
  have HQc := Lib.hid hac
  have HZc := Lib.hid (HZb.out.below hbc)
  have HMc := Lib.hid (HMb.out.below hbc)
  have HBc := Lib.hid (below_then HBb.out HBb.out.size hbc)
  have hel : (effW q2 q3).length ≤ 1099511627776 := by
    have h1 := effW1_len q2 q3 (allW q2 q3)
    have h2 := applyW_len (applyW [] (ones q2)) (ones q3)
    have h3 := applyW_len [] (ones q2)
    simp only [ones, List.length_map, List.length_nil] at h2 h3
    unfold effW
    unfold allW at h1 ⊢
    simp only [ones] at h1 ⊢
    omega
  clear hoc hbc hac
  go_wp2_with (fail)
  generalize effW q2 q3 = z at *
  refine (writes16_c z z Z Q5 cz c5 wc HZc.out HQc.out hel hel).mono ?_
  rw [decide_eq_true rfl]
  rintro e wd ⟨rfl, hbd⟩
  have HMd := Lib.hid (HMc.out.below hbd)
  have HBd := Lib.hid (below_then HBc.out HBc.out.size hbd)
  clear hbd
  go_wp2_with (fail)
  refine (peffect_nil wd).mono ?_
  rintro e we ⟨A6, c6, rfl, hbe⟩
  have HMe := Lib.hid (HMd.out.below hbe)
  have HBe := Lib.hid (below_then HBd.out HBd.out.size hbe)
  clear hbe
  go_wp2_with (fail)
  refine (papply_nil m B d we HMe.out hm).mono ?_
  rintro e wf ⟨rfl, hbf⟩
  have HBf := Lib.hid (below_then HBe.out HBe.out.size hbf)
  clear hbf
  go_wp2_with (fail)
  go_returns
  exact ⟨rfl, HBf.out⟩
end Go.Proofs.YtabdldfigjkfaaaGreatDoor
