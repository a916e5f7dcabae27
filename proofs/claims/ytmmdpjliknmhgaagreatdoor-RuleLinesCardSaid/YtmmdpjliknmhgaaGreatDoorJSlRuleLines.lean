/- Joined: SlRuleLines -/
import Derived.Test.YtmmdpjliknmhgaaGreatDoorJRN
import Derived.Deep.DeepMust
/- A statement of layer 14: RuleLines. -/
namespace Go.Proofs.YtmmdpjliknmhgaaGreatDoor
open Go.RowKit Go.Shelf
attribute [local go_sem] Oper.semAt_some
theorem rule_none : ruL.read [114, 117, 108, 101] = none := readX_word labK filK 1000
set_option maxRecDepth 100000 in
set_option maxHeartbeats 8000000 in
theorem ruleLines_any (l : List RuT) (hl : l.length ≤ maxLen) (hf : ∀ r ∈ l, r.what.2.2.length ≤ maxLen) (hS : ∀ r ∈ l, r.src.2.1 < 18446744073709551616 ∧ r.dst.2.1 < 18446744073709551616) (v : Value) (s : List UInt8) (hs : s.length ≤ maxLen) (ea : Addr) (mx : Int) (w : World) (hG : Glob ea mx w) (hv : RulesV w v l) :
    Calls Tryz.prog 5 #[v, .string ⟨s.toArray⟩] w fun e w' => e = .returned (.bool true) ∧ Below w.heap.size w w' := by
  have hGk := fun W (h : Below w.heap.size w W) => hG.same (W := W) h.block
  have HSh := fun W (h : Below w.heap.size w W) => shown14_any ea mx W (hGk W h)
  have HF := fun W (h : Below w.heap.size w W) => few14_any l hl hf v W (hv.keep (KeepC.of_below h))
  have hFl := fewRu_len l
  have hFo := fewRu_ok l hS
  have HP := fun W (h : Below w.heap.size w W) u hu => ruPrint_any (fewRu l) (by omega) hFo u ea W (hGk W h).1 (hGk W h).2.1 (hGk W h).2.2.1 hu
  have hpl := pT_len (fewRu l)
  have htl : (s.take 1000).length ≤ 1000 := by rw [List.length_take]; omega
  have HA := fun W (h : Below w.heap.size w W) => ruParse_any ((ruL.pT (fewRu l) ++ [114, 117, 108, 101, 10]) ++ s.take 1000) (by simp only [List.length_append, List.length_cons, List.length_nil]; omega) ea mx W (hGk W h)
  have HA2 := fun W (h : Below w.heap.size w W) => ruParse_any (ruL.pT (fewRu l) ++ [114, 117, 108, 101]) (by simp only [List.length_append, List.length_cons, List.length_nil]; omega) ea mx W (hGk W h)
  have HC := fun W => cut14_any s hs W
  have hc1 := pE_cases (fewRu l)
  have hln := fun h => ruL.law_lines (l := fewRu l) h [114, 117, 108, 101] (s.take 1000) (by decide) (by decide) rule_none
  clear hG hGk hv hFo hS hf
  generalize fewRu l = F at *
  rcases hc1 with ⟨e0, eR⟩ | ⟨e0, eR, eT⟩
  · obtain ⟨⟨m1, m2⟩, m3, m4, m5⟩ := hln e0
    have hap : (ruL.pT F ++ [114, 117, 108, 101, 10]) ++ s.take 1000 = ruL.pT F ++ ([114, 117, 108, 101] ++ 10 :: s.take 1000) := by simp
    rw [← hap] at m1 m2
    rw [m1, m2] at HA
    rw [m3, m4, m5] at HA2
    rw [e0] at HP
    clear hln e0 eR m1 m2 m3 m4 m5 hap
    have hz1 := ba_size (ruL.pT F)
    generalize ruL.rL (ruL.pT F ++ [114, 117, 108, 101, 10] ++ s.take 1000) = R1 at *
    simp only [List.append_assoc, List.cons_append, List.nil_append] at HA
    generalize ruL.pT F = a at *
    have hz2 := ba_size (s.take 1000)
    generalize s.take 1000 = t at *
    have hz3 := ba_size (a ++ [114, 117, 108, 101, 10])
    rw [List.length_append] at hz3
    simp only [List.length_cons, List.length_nil, Nat.zero_add, Nat.reduceAdd] at hz3
    have hq1 : ¬ (9223372036854775807 < a.length + 4) := by omega
    have hq2 : ¬ (9223372036854775807 < a.length + 5) := by omega
    have hq3 : ¬ (9223372036854775807 < a.length + 5 + t.length) := by omega
    go_enter Tryz.func5, Tryz.ntmps5
    go_wp2_with fail
    with_reducible refine (HSh w (Below.refl w.heap.size w)).mono ?_
    rintro e w1 ⟨rfl, b1⟩
    have B1 := (Below.refl w.heap.size w).trans (b1.mono (Below.refl w.heap.size w).size)
    clear b1
    go_wp2_with fail
    with_reducible refine (HF w1 B1).mono ?_
    rintro e w2 ⟨v2, rfl, o2, b2⟩
    have B2 := B1.trans (b2.mono B1.size)
    clear b2
    obtain ⟨a2, c2, rfl⟩ := ruOwn_shape o2
    have V2 := RulesO.view o2
    clear o2
    go_wp2_with fail
    with_reducible refine (HP w2 B2 _ V2).mono ?_
    rintro e w3 ⟨rfl, b3⟩
    have B3 := B2.trans (b3.mono B2.size)
    replace V2 := V2.keep (KeepC.of_below b3)
    clear b3
    go_wp2_with fail
    with_reducible refine (HC w3).mono ?_
    rintro e w' ⟨rfl, rfl⟩
    go_wp2_with fail
    with_reducible refine (HA w3 B3).mono ?_
    rintro e w4 ⟨v4, rfl, o4, b4⟩
    have B4 := B3.trans (b4.mono B3.size)
    replace V2 := V2.keep (KeepC.of_below b4)
    clear b4
    obtain ⟨a4, c4, rfl⟩ := ruOwn_shape o4
    clear o4
    go_wp2_with fail
    with_reducible refine (HA2 w4 B4).mono ?_
    rintro e w5 ⟨v5, rfl, o5, b5⟩
    have B5 := B4.trans (b5.mono B4.size)
    replace V2 := V2.keep (KeepC.of_below b5)
    clear b5
    obtain ⟨a5, c5, rfl⟩ := ruOwn_shape o5
    clear o5
    go_wp2_with fail
    go_ret
    exact ⟨rfl, B5⟩
  · rw [e0, eT] at HP
    clear hln e0 eR eT HA HA2
    go_enter Tryz.func5, Tryz.ntmps5
    go_wp2_with fail
    with_reducible refine (HSh w (Below.refl w.heap.size w)).mono ?_
    rintro e w1 ⟨rfl, b1⟩
    have B1 := (Below.refl w.heap.size w).trans (b1.mono (Below.refl w.heap.size w).size)
    clear b1
    go_wp2_with fail
    with_reducible refine (HF w1 B1).mono ?_
    rintro e w2 ⟨v2, rfl, o2, b2⟩
    have B2 := B1.trans (b2.mono B1.size)
    clear b2
    obtain ⟨a2, c2, rfl⟩ := ruOwn_shape o2
    have V2 := RulesO.view o2
    clear o2
    go_wp2_with fail
    with_reducible refine (HP w2 B2 _ V2).mono ?_
    rintro e w3 ⟨rfl, b3⟩
    have B3 := B2.trans (b3.mono B2.size)
    clear b3
    go_wp2_with fail
    go_ret
    exact ⟨rfl, B3⟩
end Go.Proofs.YtmmdpjliknmhgaaGreatDoor
