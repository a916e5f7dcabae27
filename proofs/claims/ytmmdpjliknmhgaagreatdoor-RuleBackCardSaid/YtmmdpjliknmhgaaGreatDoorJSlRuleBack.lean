/- Joined: SlRuleBack -/
import Derived.Test.YtmmdpjliknmhgaaGreatDoorJRN
import Derived.Deep.DeepMust
/- A statement of layer 14: RuleBack. -/
namespace Go.Proofs.YtmmdpjliknmhgaaGreatDoor
open Go.RowKit Go.Shelf
attribute [local go_sem] Oper.semAt_some
set_option maxRecDepth 100000 in
set_option maxHeartbeats 8000000 in
theorem ruleBack_any (l : List RuT) (hl : l.length ≤ maxLen) (hf : ∀ r ∈ l, r.what.2.2.length ≤ maxLen) (hS : ∀ r ∈ l, r.src.2.1 < 18446744073709551616 ∧ r.dst.2.1 < 18446744073709551616) (v : Value) (s : List UInt8) (hs : s.length ≤ maxLen) (ea : Addr) (mx : Int) (w : World) (hG : Glob ea mx w) (hv : RulesV w v l) :
    Calls Tryz.prog 4 #[v, .string ⟨s.toArray⟩] w fun e w' => e = .returned (.bool true) ∧ Below w.heap.size w w' := by
  have hGk := fun W (h : Below w.heap.size w W) => hG.same (W := W) h.block
  have HSh := fun W (h : Below w.heap.size w W) => shown14_any ea mx W (hGk W h)
  have HF := fun W (h : Below w.heap.size w W) => few14_any l hl hf v W (hv.keep (KeepC.of_below h))
  have hFl := fewRu_len l
  have hFo := fewRu_ok l hS
  have HP := fun W (h : Below w.heap.size w W) u hu => ruPrint_any (fewRu l) (by omega) hFo u ea W (hGk W h).1 (hGk W h).2.1 (hGk W h).2.2.1 hu
  have HR := fun W (h : Below w.heap.size w W) u hu => ruRight_any (fewRu l) (by omega) hFo u ea W (hGk W h).1 hu
  have HA := fun W (h : Below w.heap.size w W) => ruParse_any (ruL.pT (fewRu l)) (by have := pT_len (fewRu l); omega) ea mx W (hGk W h)
  have HS := fun W u z hu hz => ruSame_eq (fewRu l) (by omega) u z W hu hz
  have HC := fun W => cut14_any s hs W
  have HA2 := fun W (h : Below w.heap.size w W) => ruParse_any (s.take 1000) (by rw [List.length_take]; omega) ea mx W (hGk W h)
  have hcl := rL_ok (s.take 1000)
  have HP2 := fun W (h : Below w.heap.size w W) u hu => ruPrint_any (ruL.rL (s.take 1000)) (by omega) hcl.1 u ea W (hGk W h).1 (hGk W h).2.1 (hGk W h).2.2.1 hu
  have HR2 := fun W (h : Below w.heap.size w W) u hu => ruRight_any (ruL.rL (s.take 1000)) (by omega) hcl.1 u ea W (hGk W h).1 hu
  have hc1 := pE_cases (fewRu l)
  have hth := fun h => ruL.law_there (l := fewRu l) h
  have hc2 := rE_cases (s.take 1000)
  have hhe := fun h => ruL.law_here (s := s.take 1000) h
  clear hG hGk hv hFo hS hf hcl
  generalize fewRu l = F at *
  have hz0 := fun b : List UInt8 => ba_size b
  rcases hc1 with ⟨e0, eR⟩ | ⟨e0, eR, eT⟩
  · obtain ⟨m1, m2, m3⟩ := hth e0
    rw [m1, m2, m3] at HA
    rw [e0] at HP
    rw [eR] at HR
    clear hth e0 eR m1 m2 m3
    generalize ruL.pT F = a at *
    rcases hc2 with ⟨g0, gR⟩ | ⟨g0, gL⟩
    · obtain ⟨e1, e2, e3, e4⟩ := hhe g0
      rw [e4, g0] at HA2
      rw [e1, e3] at HP2
      rw [e2] at HR2
      clear hhe e1 e2 e3 e4 g0 gR
      generalize ruL.rL (s.take 1000) = c at *
      generalize s.take 1000 = t at *
      go_enter Tryz.func4, Tryz.ntmps4
      go_wp2_with fail
      with_reducible refine (HSh w (Below.refl w.heap.size w)).mono ?_
      rintro e w1 ⟨rfl, b1⟩
      have B1 := (Below.refl w.heap.size w).trans (b1.mono (Below.refl w.heap.size w).size)
      clear b1
      go_wp2_with fail
      with_reducible refine (HF w1 B1).mono ?_
      rintro e w2 ⟨v2, rfl, o2, b2⟩
      have B2 := B1.trans (b2.mono B1.size)
      clear b2
      obtain ⟨a2, c2, rfl⟩ := ruOwn_shape o2
      have V2 := RulesO.view o2
      clear o2
      go_wp2_with fail
      with_reducible refine (HP w2 B2 _ V2).mono ?_
      rintro e w3 ⟨rfl, b3⟩
      have B3 := B2.trans (b3.mono B2.size)
      replace V2 := V2.keep (KeepC.of_below b3)
      clear b3
      go_wp2_with fail
      with_reducible refine (HA w3 B3).mono ?_
      rintro e w4 ⟨v4, rfl, o4, b4⟩
      have B4 := B3.trans (b4.mono B3.size)
      replace V2 := V2.keep (KeepC.of_below b4)
      clear b4
      obtain ⟨a4, c4, rfl⟩ := ruOwn_shape o4
      have V4 := RulesO.view o4
      clear o4
      go_wp2_with fail
      with_reducible refine (HS w4 _ _ V2 V4).mono ?_
      rintro e w5 ⟨rfl, b5⟩
      have B5 := B4.trans (b5.mono B4.size)
      replace V2 := V2.keep (KeepC.of_below b5)
      replace V4 := V4.keep (KeepC.of_below b5)
      clear b5
      go_wp2_with fail
      with_reducible refine (HC w5).mono ?_
      rintro e w' ⟨rfl, rfl⟩
      go_wp2_with fail
      with_reducible refine (HA2 w5 B5).mono ?_
      rintro e w6 ⟨v6, rfl, o6, b6⟩
      have B6 := B5.trans (b6.mono B5.size)
      replace V2 := V2.keep (KeepC.of_below b6)
      replace V4 := V4.keep (KeepC.of_below b6)
      clear b6
      obtain ⟨a6, c6, rfl⟩ := ruOwn_shape o6
      have V6 := RulesO.view o6
      clear o6
      go_wp2_with fail
      with_reducible refine (HP2 w6 B6 _ V6).mono ?_
      rintro e w7 ⟨rfl, b7⟩
      have B7 := B6.trans (b7.mono B6.size)
      replace V2 := V2.keep (KeepC.of_below b7)
      replace V4 := V4.keep (KeepC.of_below b7)
      replace V6 := V6.keep (KeepC.of_below b7)
      clear b7
      go_wp2_with fail
      with_reducible refine (HR w7 B7 _ V2).mono ?_
      rintro e w8 ⟨rfl, b8⟩
      have B8 := B7.trans (b8.mono B7.size)
      replace V2 := V2.keep (KeepC.of_below b8)
      replace V4 := V4.keep (KeepC.of_below b8)
      replace V6 := V6.keep (KeepC.of_below b8)
      clear b8
      go_wp2_with fail
      with_reducible refine (HR2 w8 B8 _ V6).mono ?_
      rintro e w9 ⟨rfl, b9⟩
      have B9 := B8.trans (b9.mono B8.size)
      replace V2 := V2.keep (KeepC.of_below b9)
      replace V4 := V4.keep (KeepC.of_below b9)
      replace V6 := V6.keep (KeepC.of_below b9)
      clear b9
      go_wp2_with fail
      with_reducible refine (HC w9).mono ?_
      rintro e w' ⟨rfl, rfl⟩
      go_wp2_with fail
      go_ret
      exact ⟨rfl, B9⟩
    · clear hhe HR2
      rw [g0] at HA2
      generalize ruL.rL (s.take 1000) = c at *
      generalize ruL.rN (s.take 1000) = n2 at *
      generalize s.take 1000 = t at *
      generalize ruL.pT c = b at *
      generalize ruL.pE c = h at *
      clear gL g0
      go_enter Tryz.func4, Tryz.ntmps4
      go_wp2_with fail
      with_reducible refine (HSh w (Below.refl w.heap.size w)).mono ?_
      rintro e w1 ⟨rfl, b1⟩
      have B1 := (Below.refl w.heap.size w).trans (b1.mono (Below.refl w.heap.size w).size)
      clear b1
      go_wp2_with fail
      with_reducible refine (HF w1 B1).mono ?_
      rintro e w2 ⟨v2, rfl, o2, b2⟩
      have B2 := B1.trans (b2.mono B1.size)
      clear b2
      obtain ⟨a2, c2, rfl⟩ := ruOwn_shape o2
      have V2 := RulesO.view o2
      clear o2
      go_wp2_with fail
      with_reducible refine (HP w2 B2 _ V2).mono ?_
      rintro e w3 ⟨rfl, b3⟩
      have B3 := B2.trans (b3.mono B2.size)
      replace V2 := V2.keep (KeepC.of_below b3)
      clear b3
      go_wp2_with fail
      with_reducible refine (HA w3 B3).mono ?_
      rintro e w4 ⟨v4, rfl, o4, b4⟩
      have B4 := B3.trans (b4.mono B3.size)
      replace V2 := V2.keep (KeepC.of_below b4)
      clear b4
      obtain ⟨a4, c4, rfl⟩ := ruOwn_shape o4
      have V4 := RulesO.view o4
      clear o4
      go_wp2_with fail
      with_reducible refine (HS w4 _ _ V2 V4).mono ?_
      rintro e w5 ⟨rfl, b5⟩
      have B5 := B4.trans (b5.mono B4.size)
      replace V2 := V2.keep (KeepC.of_below b5)
      replace V4 := V4.keep (KeepC.of_below b5)
      clear b5
      go_wp2_with fail
      with_reducible refine (HC w5).mono ?_
      rintro e w' ⟨rfl, rfl⟩
      go_wp2_with fail
      with_reducible refine (HA2 w5 B5).mono ?_
      rintro e w6 ⟨v6, rfl, o6, b6⟩
      have B6 := B5.trans (b6.mono B5.size)
      replace V2 := V2.keep (KeepC.of_below b6)
      replace V4 := V4.keep (KeepC.of_below b6)
      clear b6
      obtain ⟨a6, c6, rfl⟩ := ruOwn_shape o6
      have V6 := RulesO.view o6
      clear o6
      go_wp2_with fail
      with_reducible refine (HP2 w6 B6 _ V6).mono ?_
      rintro e w7 ⟨rfl, b7⟩
      have B7 := B6.trans (b7.mono B6.size)
      replace V2 := V2.keep (KeepC.of_below b7)
      replace V4 := V4.keep (KeepC.of_below b7)
      replace V6 := V6.keep (KeepC.of_below b7)
      clear b7
      go_wp2_with fail
      with_reducible refine (HR w7 B7 _ V2).mono ?_
      rintro e w8 ⟨rfl, b8⟩
      have B8 := B7.trans (b8.mono B7.size)
      replace V2 := V2.keep (KeepC.of_below b8)
      replace V4 := V4.keep (KeepC.of_below b8)
      replace V6 := V6.keep (KeepC.of_below b8)
      clear b8
      go_wp2_with fail
      go_ret
      exact ⟨rfl, B8⟩
  · rw [eT] at HA HP
    rw [e0] at HP
    rw [eR] at HR
    clear hth e0 eR eT HS
    generalize ruL.rL [] = m at *
    generalize ruL.rN [] = n at *
    generalize ruL.rE [] = f at *
    rcases hc2 with ⟨g0, gR⟩ | ⟨g0, gL⟩
    · obtain ⟨e1, e2, e3, e4⟩ := hhe g0
      rw [e4, g0] at HA2
      rw [e1, e3] at HP2
      rw [e2] at HR2
      clear hhe e1 e2 e3 e4 g0 gR
      generalize ruL.rL (s.take 1000) = c at *
      generalize s.take 1000 = t at *
      go_enter Tryz.func4, Tryz.ntmps4
      go_wp2_with fail
      with_reducible refine (HSh w (Below.refl w.heap.size w)).mono ?_
      rintro e w1 ⟨rfl, b1⟩
      have B1 := (Below.refl w.heap.size w).trans (b1.mono (Below.refl w.heap.size w).size)
      clear b1
      go_wp2_with fail
      with_reducible refine (HF w1 B1).mono ?_
      rintro e w2 ⟨v2, rfl, o2, b2⟩
      have B2 := B1.trans (b2.mono B1.size)
      clear b2
      obtain ⟨a2, c2, rfl⟩ := ruOwn_shape o2
      have V2 := RulesO.view o2
      clear o2
      go_wp2_with fail
      with_reducible refine (HP w2 B2 _ V2).mono ?_
      rintro e w3 ⟨rfl, b3⟩
      have B3 := B2.trans (b3.mono B2.size)
      replace V2 := V2.keep (KeepC.of_below b3)
      clear b3
      go_wp2_with fail
      with_reducible refine (HA w3 B3).mono ?_
      rintro e w4 ⟨v4, rfl, o4, b4⟩
      have B4 := B3.trans (b4.mono B3.size)
      replace V2 := V2.keep (KeepC.of_below b4)
      clear b4
      obtain ⟨a4, c4, rfl⟩ := ruOwn_shape o4
      have V4 := RulesO.view o4
      clear o4
      go_wp2_with fail
      with_reducible refine (HC w4).mono ?_
      rintro e w' ⟨rfl, rfl⟩
      go_wp2_with fail
      with_reducible refine (HA2 w4 B4).mono ?_
      rintro e w5 ⟨v6, rfl, o6, b5⟩
      have B5 := B4.trans (b5.mono B4.size)
      replace V2 := V2.keep (KeepC.of_below b5)
      clear b5
      obtain ⟨a6, c6, rfl⟩ := ruOwn_shape o6
      have V6 := RulesO.view o6
      clear o6
      go_wp2_with fail
      with_reducible refine (HP2 w5 B5 _ V6).mono ?_
      rintro e w6 ⟨rfl, b6⟩
      have B6 := B5.trans (b6.mono B5.size)
      replace V2 := V2.keep (KeepC.of_below b6)
      replace V6 := V6.keep (KeepC.of_below b6)
      clear b6
      go_wp2_with fail
      with_reducible refine (HR w6 B6 _ V2).mono ?_
      rintro e w7 ⟨rfl, b7⟩
      have B7 := B6.trans (b7.mono B6.size)
      replace V2 := V2.keep (KeepC.of_below b7)
      replace V6 := V6.keep (KeepC.of_below b7)
      clear b7
      go_wp2_with fail
      with_reducible refine (HR2 w7 B7 _ V6).mono ?_
      rintro e w8 ⟨rfl, b8⟩
      have B8 := B7.trans (b8.mono B7.size)
      replace V2 := V2.keep (KeepC.of_below b8)
      replace V6 := V6.keep (KeepC.of_below b8)
      clear b8
      go_wp2_with fail
      with_reducible refine (HC w8).mono ?_
      rintro e w' ⟨rfl, rfl⟩
      go_wp2_with fail
      go_ret
      exact ⟨rfl, B8⟩
    · clear hhe HR2
      rw [g0] at HA2
      generalize ruL.rL (s.take 1000) = c at *
      generalize ruL.rN (s.take 1000) = n2 at *
      generalize s.take 1000 = t at *
      generalize ruL.pT c = b at *
      generalize ruL.pE c = h at *
      clear gL g0
      go_enter Tryz.func4, Tryz.ntmps4
      go_wp2_with fail
      with_reducible refine (HSh w (Below.refl w.heap.size w)).mono ?_
      rintro e w1 ⟨rfl, b1⟩
      have B1 := (Below.refl w.heap.size w).trans (b1.mono (Below.refl w.heap.size w).size)
      clear b1
      go_wp2_with fail
      with_reducible refine (HF w1 B1).mono ?_
      rintro e w2 ⟨v2, rfl, o2, b2⟩
      have B2 := B1.trans (b2.mono B1.size)
      clear b2
      obtain ⟨a2, c2, rfl⟩ := ruOwn_shape o2
      have V2 := RulesO.view o2
      clear o2
      go_wp2_with fail
      with_reducible refine (HP w2 B2 _ V2).mono ?_
      rintro e w3 ⟨rfl, b3⟩
      have B3 := B2.trans (b3.mono B2.size)
      replace V2 := V2.keep (KeepC.of_below b3)
      clear b3
      go_wp2_with fail
      with_reducible refine (HA w3 B3).mono ?_
      rintro e w4 ⟨v4, rfl, o4, b4⟩
      have B4 := B3.trans (b4.mono B3.size)
      replace V2 := V2.keep (KeepC.of_below b4)
      clear b4
      obtain ⟨a4, c4, rfl⟩ := ruOwn_shape o4
      have V4 := RulesO.view o4
      clear o4
      go_wp2_with fail
      with_reducible refine (HC w4).mono ?_
      rintro e w' ⟨rfl, rfl⟩
      go_wp2_with fail
      with_reducible refine (HA2 w4 B4).mono ?_
      rintro e w5 ⟨v6, rfl, o6, b5⟩
      have B5 := B4.trans (b5.mono B4.size)
      replace V2 := V2.keep (KeepC.of_below b5)
      clear b5
      obtain ⟨a6, c6, rfl⟩ := ruOwn_shape o6
      have V6 := RulesO.view o6
      clear o6
      go_wp2_with fail
      with_reducible refine (HP2 w5 B5 _ V6).mono ?_
      rintro e w6 ⟨rfl, b6⟩
      have B6 := B5.trans (b6.mono B5.size)
      replace V2 := V2.keep (KeepC.of_below b6)
      replace V6 := V6.keep (KeepC.of_below b6)
      clear b6
      go_wp2_with fail
      with_reducible refine (HR w6 B6 _ V2).mono ?_
      rintro e w7 ⟨rfl, b7⟩
      have B7 := B6.trans (b7.mono B6.size)
      replace V2 := V2.keep (KeepC.of_below b7)
      replace V6 := V6.keep (KeepC.of_below b7)
      clear b7
      go_wp2_with fail
      go_ret
      exact ⟨rfl, B7⟩
end Go.Proofs.YtmmdpjliknmhgaaGreatDoor
