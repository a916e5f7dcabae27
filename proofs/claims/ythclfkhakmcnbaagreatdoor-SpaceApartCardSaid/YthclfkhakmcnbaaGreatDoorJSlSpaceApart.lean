/- Joined: SlSpaceApart -/
import Derived.Test.YthclfkhakmcnbaaGreatDoorJTP
import Derived.Test.YthclfkhakmcnbaaGreatDoorJTN
import Derived.Test.YthclfkhakmcnbaaGreatDoorJTX
/- The law SpaceApart, walked. -/
namespace Go.Proofs.YthclfkhakmcnbaaGreatDoor
open Go.RowKit Go.Shelf
attribute [local go_sem] Oper.semAt_some undef
set_option maxRecDepth 100000 in
set_option maxHeartbeats 8000000 in
theorem slApart_any (l : List ObjD) (hl : l.length ≤ maxLen) (hi : ∀ x ∈ l, OkO x) (v : Value) (qu : Int) (n o : List UInt8) (hn : n.length ≤ maxLen) (ho : o.length ≤ maxLen) (k m : Int) (t : List UInt8) (ht : t.length ≤ maxLen) (a f em : Addr) (ea : Addr) (w : World)
    (hge : w.cell? ⟨0, 0, none⟩ = some (errV8 ea)) (het : ErrT w) (hr : RErr w a f em) (hv : ObjsV w v l) :
    Calls Tryz.prog 7 #[v, .int .i64 qu, .string ⟨n.toArray⟩, .string ⟨o.toArray⟩, .int .i64 k, .int .i64 m, .string ⟨t.toArray⟩] w fun e w' => e = .returned (.bool true) ∧ Below w.heap.size w w' := by
  have HSh := fun W (h : KeepC w W) => shown10_any ea W (h.2 _ _ _ hge) (h.2 _ _ _ het)
  have HF := fun W (h : KeepC w W) => few10_any l hl hi v W (hv.keep h)
  have fL := fewS_fitsX l
  have hL22 := fewS_len l
  generalize fewS l = L at *
  have HC := fun W => cut10_any n hn W
  have HD := fun W => cut10_any o ho W
  have HE := fun W => cut10_any t ht W
  have hn5 : (n.take 50).length ≤ maxLen := by rw [List.length_take]; omega
  have ht5 : (t.take 50).length ≤ 1000000 := by rw [List.length_take]; omega
  generalize n.take 50 = N at *
  generalize o.take 50 = O at *
  generalize t.take 50 = T at *
  have H1 := fun W (h : KeepC w W) v1 (h1 : ObjsV W v1 L) => Make_any L fL v1 qu N hn5 k m ea W (h.2 _ _ _ hge) (h.2 _ _ _ het) h1
  have H2 := fun W (h : KeepC w W) v1 (h1 : ObjsV W v1 L) => Write_any L fL v1 qu N m T ht5 ea W (h.2 _ _ _ hge) (h.2 _ _ _ het) h1
  have H4 := fun W (h : KeepC w W) v1 (h1 : ObjsV W v1 L) => Drop_any L fL v1 N ea W (h.2 _ _ _ hge) (h.2 _ _ _ het) h1
  have H3 := fun W (h : Below w.heap.size w W) v1 (h1 : ObjsV W v1 L) => Put_any L fL v1 N T ht5 a f em W (hr.below h) ((KeepC.of_below h).2 _ _ _ het) h1
  have fSA := make_fits fL qu N hn5 k m
  have fSB := writeS_fits fL qu N m T
  have fSC := put_fits fL N T
  have fSD := dropS_fits fL N
  have fA : Hid (N ≠ O → makeE L qu N k m = 0 → keptB L (makeS L qu N k m) O = true) := fun h1 h2 => make_kept h2 h1
  have fB : Hid (N ≠ O → writeE L qu N m T = 0 → keptB L (writeS L qu N m T) O = true) := fun h1 h2 => write_kept h2 h1
  have fC : Hid (N ≠ O → putE L N T = 0 → keptB L (putS L N T) O = true) := fun h1 h2 => put_kept h2 h1
  have fD : Hid (N ≠ O → dropE L N = 0 → keptB L (dropS L N) O = true) := fun h1 h2 => drop_kept h2 h1
  generalize makeS L qu N k m = SA at *
  generalize makeE L qu N k m = EA at *
  generalize writeS L qu N m T = SB at *
  generalize writeE L qu N m T = EB at *
  generalize putS L N T = SC at *
  generalize putE L N T = EC at *
  generalize dropS L N = SD at *
  generalize dropE L N = ED at *
  have HKA := fun W v1 v2 h1 h2 => kept_any L SA fL fSA O v1 v2 W h1 h2
  have HKB := fun W v1 v2 h1 h2 => kept_any L SB fL fSB O v1 v2 W h1 h2
  have HKC := fun W v1 v2 h1 h2 => kept_any L SC fL fSC O v1 v2 W h1 h2
  have HKD := fun W v1 v2 h1 h2 => kept_any L SD fL fSD O v1 v2 W h1 h2
  obtain ⟨av, cv, rfl, -⟩ := hv.at
  clear hge het hr hv hi hl hn ho ht hn5 ht5 fSA fSB fSC fSD fL
  go_enter Tryz.func7, Tryz.ntmps7
  go_wp2_with fail
  with_reducible refine (HSh _ (KeepC.refl _)).mono ?_
  rintro e w1 ⟨rfl, b1⟩
  have B1 := b1
  clear HSh
  go_wp2_with fail
  with_reducible refine (HF _ (KeepC.of_below B1)).mono ?_
  rintro e w2 ⟨vL, rfl, o2, b2⟩
  have B2 := B1.trans (b2.mono B1.size)
  clear b2 B1
  have pL := o2.view
  clear o2
  clear HF
  go_wp2_with fail
  with_reducible refine (HC _).mono ?_
  rintro e w2' ⟨rfl, rfl⟩
  go_wp2_with fail
  with_reducible refine (HD _).mono ?_
  rintro e w2' ⟨rfl, rfl⟩
  go_wp2_with fail
  with_reducible refine (H1 _ (KeepC.of_below B2) _ pL).mono ?_
  rintro e w3 ⟨v3, rfl, o3, b3⟩
  have B3 := B2.trans (b3.mono B2.size)
  replace pL := pL.keep (KeepC.of_below b3)
  clear b3 B2
  have pA := o3.view
  clear o3
  go_wp2_with fail
  with_reducible refine (H4 _ (KeepC.of_below B3) _ pL).mono ?_
  rintro e w4 ⟨v4, rfl, o4, b4⟩
  have B4 := B3.trans (b4.mono B3.size)
  replace pL := pL.keep (KeepC.of_below b4)
  replace pA := pA.keep (KeepC.of_below b4)
  clear b4 B3
  have pD := o4.view
  clear o4
  go_wp2_with fail
  with_reducible refine (HE _).mono ?_
  rintro e w4' ⟨rfl, rfl⟩
  go_wp2_with fail
  with_reducible refine (H2 _ (KeepC.of_below B4) _ pL).mono ?_
  rintro e w5 ⟨v5, rfl, o5, b5⟩
  have B5 := B4.trans (b5.mono B4.size)
  replace pL := pL.keep (KeepC.of_below b5)
  replace pA := pA.keep (KeepC.of_below b5)
  replace pD := pD.keep (KeepC.of_below b5)
  clear b5 B4
  have pB := o5.view
  clear o5
  go_wp2_with fail
  with_reducible refine (HE _).mono ?_
  rintro e w5' ⟨rfl, rfl⟩
  go_wp2_with fail
  with_reducible refine (H3 _ B5 _ pL).mono ?_
  rintro e w6 ⟨v6, rfl, pC, b6⟩
  have B6 := B5.trans (b6.mono B5.size)
  replace pL := pL.keep (KeepC.of_below b6)
  replace pA := pA.keep (KeepC.of_below b6)
  replace pD := pD.keep (KeepC.of_below b6)
  replace pB := pB.keep (KeepC.of_below b6)
  clear b6 B5
  clear H1 H2 H3 H4 HC HD HE
  by_cases hNO : N = O
  · have hNOb : (N == O) = true := by simpa using hNO
    subst hNO
    clear HKA HKB HKC HKD fA fB fC fD
    go_wp2_with fail
    go_ret
    exact ⟨rfl, B6⟩
  have hNOb : (N == O) = false := by simpa using hNO
  have fA := Lib.hid (fun h => fA.out hNO h)
  have fB := Lib.hid (fun h => fB.out hNO h)
  have fC := Lib.hid (fun h => fC.out hNO h)
  have fD := Lib.hid (fun h => fD.out hNO h)
  clear hNO
  by_cases hA : EA = 0
  · have hR := fun W v1 v2 h1 h2 => HKA W v1 v2 h1 h2
    rw [fA.out hA] at hR
    subst hA
    clear HKA
    go_wp2_with fail
    with_reducible refine (hR _ _ _ pL pA).mono ?_
    rintro e w7 ⟨rfl, b7⟩
    have B7 := B6.trans (b7.mono B6.size)
    replace pL := pL.keep (KeepC.of_below b7)
    replace pA := pA.keep (KeepC.of_below b7)
    replace pD := pD.keep (KeepC.of_below b7)
    replace pB := pB.keep (KeepC.of_below b7)
    replace pC := pC.keep (KeepC.of_below b7)
    clear b7 B6
    clear pA hR
    by_cases hD : ED = 0
    · have hR := fun W v1 v2 h1 h2 => HKD W v1 v2 h1 h2
      rw [fD.out hD] at hR
      subst hD
      clear HKD
      go_wp2_with fail
      with_reducible refine (hR _ _ _ pL pD).mono ?_
      rintro e w8 ⟨rfl, b8⟩
      have B8 := B7.trans (b8.mono B7.size)
      replace pL := pL.keep (KeepC.of_below b8)
      replace pD := pD.keep (KeepC.of_below b8)
      replace pB := pB.keep (KeepC.of_below b8)
      replace pC := pC.keep (KeepC.of_below b8)
      clear b8 B7
      clear pD hR
      by_cases hB : EB = 0
      · have hR := fun W v1 v2 h1 h2 => HKB W v1 v2 h1 h2
        rw [fB.out hB] at hR
        subst hB
        clear HKB
        go_wp2_with fail
        with_reducible refine (hR _ _ _ pL pB).mono ?_
        rintro e w9 ⟨rfl, b9⟩
        have B9 := B8.trans (b9.mono B8.size)
        replace pL := pL.keep (KeepC.of_below b9)
        replace pB := pB.keep (KeepC.of_below b9)
        replace pC := pC.keep (KeepC.of_below b9)
        clear b9 B8
        clear pB hR
        by_cases hC : EC = 0
        · have hR := fun W v1 v2 h1 h2 => HKC W v1 v2 h1 h2
          rw [fC.out hC] at hR
          subst hC
          clear HKC
          go_wp2_with fail
          with_reducible refine (hR _ _ _ pL pC).mono ?_
          rintro e w10 ⟨rfl, b10⟩
          have B10 := B9.trans (b10.mono B9.size)
          replace pL := pL.keep (KeepC.of_below b10)
          replace pC := pC.keep (KeepC.of_below b10)
          clear b10 B9
          clear pC hR
          go_wp2_with fail
          go_ret
          exact ⟨rfl, B10⟩
        · have hbC : (EC != 0) = true := by simpa using hC
          clear HKC fC hC pC
          go_wp2_with fail
          go_ret
          exact ⟨rfl, B9⟩
      · have hbB : (EB != 0) = true := by simpa using hB
        clear HKB fB hB pB
        by_cases hC : EC = 0
        · have hR := fun W v1 v2 h1 h2 => HKC W v1 v2 h1 h2
          rw [fC.out hC] at hR
          subst hC
          clear HKC
          go_wp2_with fail
          with_reducible refine (hR _ _ _ pL pC).mono ?_
          rintro e w9 ⟨rfl, b9⟩
          have B9 := B8.trans (b9.mono B8.size)
          replace pL := pL.keep (KeepC.of_below b9)
          replace pC := pC.keep (KeepC.of_below b9)
          clear b9 B8
          clear pC hR
          go_wp2_with fail
          go_ret
          exact ⟨rfl, B9⟩
        · have hbC : (EC != 0) = true := by simpa using hC
          clear HKC fC hC pC
          go_wp2_with fail
          go_ret
          exact ⟨rfl, B8⟩
    · have hbD : (ED != 0) = true := by simpa using hD
      clear HKD fD hD pD
      by_cases hB : EB = 0
      · have hR := fun W v1 v2 h1 h2 => HKB W v1 v2 h1 h2
        rw [fB.out hB] at hR
        subst hB
        clear HKB
        go_wp2_with fail
        with_reducible refine (hR _ _ _ pL pB).mono ?_
        rintro e w8 ⟨rfl, b8⟩
        have B8 := B7.trans (b8.mono B7.size)
        replace pL := pL.keep (KeepC.of_below b8)
        replace pB := pB.keep (KeepC.of_below b8)
        replace pC := pC.keep (KeepC.of_below b8)
        clear b8 B7
        clear pB hR
        by_cases hC : EC = 0
        · have hR := fun W v1 v2 h1 h2 => HKC W v1 v2 h1 h2
          rw [fC.out hC] at hR
          subst hC
          clear HKC
          go_wp2_with fail
          with_reducible refine (hR _ _ _ pL pC).mono ?_
          rintro e w9 ⟨rfl, b9⟩
          have B9 := B8.trans (b9.mono B8.size)
          replace pL := pL.keep (KeepC.of_below b9)
          replace pC := pC.keep (KeepC.of_below b9)
          clear b9 B8
          clear pC hR
          go_wp2_with fail
          go_ret
          exact ⟨rfl, B9⟩
        · have hbC : (EC != 0) = true := by simpa using hC
          clear HKC fC hC pC
          go_wp2_with fail
          go_ret
          exact ⟨rfl, B8⟩
      · have hbB : (EB != 0) = true := by simpa using hB
        clear HKB fB hB pB
        by_cases hC : EC = 0
        · have hR := fun W v1 v2 h1 h2 => HKC W v1 v2 h1 h2
          rw [fC.out hC] at hR
          subst hC
          clear HKC
          go_wp2_with fail
          with_reducible refine (hR _ _ _ pL pC).mono ?_
          rintro e w8 ⟨rfl, b8⟩
          have B8 := B7.trans (b8.mono B7.size)
          replace pL := pL.keep (KeepC.of_below b8)
          replace pC := pC.keep (KeepC.of_below b8)
          clear b8 B7
          clear pC hR
          go_wp2_with fail
          go_ret
          exact ⟨rfl, B8⟩
        · have hbC : (EC != 0) = true := by simpa using hC
          clear HKC fC hC pC
          go_wp2_with fail
          go_ret
          exact ⟨rfl, B7⟩
  · have hbA : (EA != 0) = true := by simpa using hA
    clear HKA fA hA pA
    by_cases hD : ED = 0
    · have hR := fun W v1 v2 h1 h2 => HKD W v1 v2 h1 h2
      rw [fD.out hD] at hR
      subst hD
      clear HKD
      go_wp2_with fail
      with_reducible refine (hR _ _ _ pL pD).mono ?_
      rintro e w7 ⟨rfl, b7⟩
      have B7 := B6.trans (b7.mono B6.size)
      replace pL := pL.keep (KeepC.of_below b7)
      replace pD := pD.keep (KeepC.of_below b7)
      replace pB := pB.keep (KeepC.of_below b7)
      replace pC := pC.keep (KeepC.of_below b7)
      clear b7 B6
      clear pD hR
      by_cases hB : EB = 0
      · have hR := fun W v1 v2 h1 h2 => HKB W v1 v2 h1 h2
        rw [fB.out hB] at hR
        subst hB
        clear HKB
        go_wp2_with fail
        with_reducible refine (hR _ _ _ pL pB).mono ?_
        rintro e w8 ⟨rfl, b8⟩
        have B8 := B7.trans (b8.mono B7.size)
        replace pL := pL.keep (KeepC.of_below b8)
        replace pB := pB.keep (KeepC.of_below b8)
        replace pC := pC.keep (KeepC.of_below b8)
        clear b8 B7
        clear pB hR
        by_cases hC : EC = 0
        · have hR := fun W v1 v2 h1 h2 => HKC W v1 v2 h1 h2
          rw [fC.out hC] at hR
          subst hC
          clear HKC
          go_wp2_with fail
          with_reducible refine (hR _ _ _ pL pC).mono ?_
          rintro e w9 ⟨rfl, b9⟩
          have B9 := B8.trans (b9.mono B8.size)
          replace pL := pL.keep (KeepC.of_below b9)
          replace pC := pC.keep (KeepC.of_below b9)
          clear b9 B8
          clear pC hR
          go_wp2_with fail
          go_ret
          exact ⟨rfl, B9⟩
        · have hbC : (EC != 0) = true := by simpa using hC
          clear HKC fC hC pC
          go_wp2_with fail
          go_ret
          exact ⟨rfl, B8⟩
      · have hbB : (EB != 0) = true := by simpa using hB
        clear HKB fB hB pB
        by_cases hC : EC = 0
        · have hR := fun W v1 v2 h1 h2 => HKC W v1 v2 h1 h2
          rw [fC.out hC] at hR
          subst hC
          clear HKC
          go_wp2_with fail
          with_reducible refine (hR _ _ _ pL pC).mono ?_
          rintro e w8 ⟨rfl, b8⟩
          have B8 := B7.trans (b8.mono B7.size)
          replace pL := pL.keep (KeepC.of_below b8)
          replace pC := pC.keep (KeepC.of_below b8)
          clear b8 B7
          clear pC hR
          go_wp2_with fail
          go_ret
          exact ⟨rfl, B8⟩
        · have hbC : (EC != 0) = true := by simpa using hC
          clear HKC fC hC pC
          go_wp2_with fail
          go_ret
          exact ⟨rfl, B7⟩
    · have hbD : (ED != 0) = true := by simpa using hD
      clear HKD fD hD pD
      by_cases hB : EB = 0
      · have hR := fun W v1 v2 h1 h2 => HKB W v1 v2 h1 h2
        rw [fB.out hB] at hR
        subst hB
        clear HKB
        go_wp2_with fail
        with_reducible refine (hR _ _ _ pL pB).mono ?_
        rintro e w7 ⟨rfl, b7⟩
        have B7 := B6.trans (b7.mono B6.size)
        replace pL := pL.keep (KeepC.of_below b7)
        replace pB := pB.keep (KeepC.of_below b7)
        replace pC := pC.keep (KeepC.of_below b7)
        clear b7 B6
        clear pB hR
        by_cases hC : EC = 0
        · have hR := fun W v1 v2 h1 h2 => HKC W v1 v2 h1 h2
          rw [fC.out hC] at hR
          subst hC
          clear HKC
          go_wp2_with fail
          with_reducible refine (hR _ _ _ pL pC).mono ?_
          rintro e w8 ⟨rfl, b8⟩
          have B8 := B7.trans (b8.mono B7.size)
          replace pL := pL.keep (KeepC.of_below b8)
          replace pC := pC.keep (KeepC.of_below b8)
          clear b8 B7
          clear pC hR
          go_wp2_with fail
          go_ret
          exact ⟨rfl, B8⟩
        · have hbC : (EC != 0) = true := by simpa using hC
          clear HKC fC hC pC
          go_wp2_with fail
          go_ret
          exact ⟨rfl, B7⟩
      · have hbB : (EB != 0) = true := by simpa using hB
        clear HKB fB hB pB
        by_cases hC : EC = 0
        · have hR := fun W v1 v2 h1 h2 => HKC W v1 v2 h1 h2
          rw [fC.out hC] at hR
          subst hC
          clear HKC
          go_wp2_with fail
          with_reducible refine (hR _ _ _ pL pC).mono ?_
          rintro e w7 ⟨rfl, b7⟩
          have B7 := B6.trans (b7.mono B6.size)
          replace pL := pL.keep (KeepC.of_below b7)
          replace pC := pC.keep (KeepC.of_below b7)
          clear b7 B6
          clear pC hR
          go_wp2_with fail
          go_ret
          exact ⟨rfl, B7⟩
        · have hbC : (EC != 0) = true := by simpa using hC
          clear HKC fC hC pC
          go_wp2_with fail
          go_ret
          exact ⟨rfl, B6⟩
end Go.Proofs.YthclfkhakmcnbaaGreatDoor
