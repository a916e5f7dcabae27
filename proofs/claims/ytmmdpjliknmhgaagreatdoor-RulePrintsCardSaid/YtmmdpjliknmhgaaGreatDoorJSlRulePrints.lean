/- Joined: SlRulePrints -/
import Derived.Test.YtmmdpjliknmhgaaGreatDoorJRQ
import Derived.Test.YtmmdpjliknmhgaaGreatDoorJRV
import Derived.Deep.DeepMust
/- A statement of layer 14: RulePrints. -/
namespace Go.Proofs.YtmmdpjliknmhgaaGreatDoor
open Go.RowKit Go.Shelf
attribute [local go_sem] Oper.semAt_some
set_option maxRecDepth 100000 in
set_option maxHeartbeats 8000000 in
theorem rulePrints_any (l : List RuT) (hl : l.length ≤ maxLen) (hf : ∀ r ∈ l, r.what.2.2.length ≤ maxLen) (hS : ∀ r ∈ l, r.src.2.1 < 18446744073709551616 ∧ r.dst.2.1 < 18446744073709551616) (v : Value) (s : List UInt8) (hs : s.length ≤ maxLen) (ea : Addr) (mx : Int) (w : World) (hG : Glob ea mx w) (hv : RulesV w v l) :
    Calls Tryz.prog 3 #[v, .string ⟨s.toArray⟩] w fun e w' => e = .returned (.bool true) ∧ Below w.heap.size w w' := by
  have hGk := fun W (h : Below w.heap.size w W) => hG.same (W := W) h.block
  have HSh := fun W (h : Below w.heap.size w W) => shown14_any ea mx W (hGk W h)
  have HF := fun W (h : Below w.heap.size w W) => few14_any l hl hf v W (hv.keep (KeepC.of_below h))
  have hFl := fewRu_len l
  have hFo := fewRu_ok l hS
  have hFq := fewRu_q l hS
  have HP := fun W (h : Below w.heap.size w W) u hu => ruPrint_any (fewRu l) (by omega) hFo u ea W (hGk W h).1 (hGk W h).2.1 (hGk W h).2.2.1 hu
  have HQ := fun W u hu => ruPrintR_any (fewRu l) (by omega) hFq u W hu
  have HC := fun W => cut14_any s hs W
  have htl : (s.take 1000).length ≤ 1000 := by rw [List.length_take]; omega
  have HA := fun W (h : Below w.heap.size w W) => ruParse_any (s.take 1000) (by omega) ea mx W (hGk W h)
  have HB := fun W => ruParseR_any (s.take 1000) htl W
  have hrl := (rL_ok (s.take 1000)).2
  have HS := fun W u z hu hz => ruSame_eq (ruL.rL (s.take 1000)) (by omega) u z W hu hz
  clear hG hGk hv hFo hFq hS hf
  generalize fewRu l = F at *
  generalize ruL.rL (s.take 1000) = R at *
  generalize ruL.rN (s.take 1000) = n at *
  generalize ruL.rE (s.take 1000) = g at *
  generalize s.take 1000 = t at *
  generalize ruL.pT F = a at *
  generalize ruL.pE F = e0 at *
  go_enter Tryz.func3, Tryz.ntmps3
  go_wp2_with fail
  with_reducible refine (HSh w (Below.refl w.heap.size w)).mono ?_
  rintro e w1 ⟨rfl, b1⟩
  have B1 := (Below.refl w.heap.size w).trans (b1.mono (Below.refl w.heap.size w).size)
  clear b1
  go_wp2_with fail
  with_reducible refine (HF w1 B1).mono ?_
  rintro e w2 ⟨v2, rfl, o2, b2⟩
  have B2 := B1.trans (b2.mono B1.size)
  clear b2
  obtain ⟨a2, c2, rfl⟩ := ruOwn_shape o2
  have V2 := RulesO.view o2
  clear o2
  go_wp2_with fail
  with_reducible refine (HP w2 B2 _ V2).mono ?_
  rintro e w3 ⟨rfl, b3⟩
  have B3 := B2.trans (b3.mono B2.size)
  replace V2 := V2.keep (KeepC.of_below b3)
  clear b3
  go_wp2_with fail
  with_reducible refine (HQ w3 _ V2).mono ?_
  rintro e w4 ⟨rfl, b4⟩
  have B4 := B3.trans (b4.mono B3.size)
  replace V2 := V2.keep (KeepC.of_below b4)
  clear b4
  go_wp2_with fail
  with_reducible refine (HC w4).mono ?_
  rintro e w' ⟨rfl, rfl⟩
  go_wp2_with fail
  with_reducible refine (HA w4 B4).mono ?_
  rintro e w5 ⟨v4, rfl, o4, b5⟩
  have B5 := B4.trans (b5.mono B4.size)
  replace V2 := V2.keep (KeepC.of_below b5)
  clear b5
  obtain ⟨a4, c4, rfl⟩ := ruOwn_shape o4
  have V4 := RulesO.view o4
  clear o4
  go_wp2_with fail
  with_reducible refine (HC w5).mono ?_
  rintro e w' ⟨rfl, rfl⟩
  go_wp2_with fail
  with_reducible refine (HB w5).mono ?_
  rintro e w6 ⟨v5, rfl, o5, b6⟩
  have B6 := B5.trans (b6.mono B5.size)
  replace V2 := V2.keep (KeepC.of_below b6)
  replace V4 := V4.keep (KeepC.of_below b6)
  clear b6
  obtain ⟨a5, c5, rfl⟩ := ruOwn_shape o5
  have V5 := RulesO.view o5
  clear o5
  go_wp2_with fail
  with_reducible refine (HS w6 _ _ V4 V5).mono ?_
  rintro e w7 ⟨rfl, b7⟩
  have B7 := B6.trans (b7.mono B6.size)
  replace V2 := V2.keep (KeepC.of_below b7)
  replace V4 := V4.keep (KeepC.of_below b7)
  replace V5 := V5.keep (KeepC.of_below b7)
  clear b7
  go_wp2_with fail
  go_ret
  exact ⟨rfl, B7⟩
end Go.Proofs.YtmmdpjliknmhgaaGreatDoor
