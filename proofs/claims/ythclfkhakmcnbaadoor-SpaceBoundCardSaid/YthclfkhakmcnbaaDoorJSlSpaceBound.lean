/- Joined: SlBoundA; SlBoundB; SlBoundC; SlBoundD; SlSpaceBound -/
import Derived.Test.YthclfkhakmcnbaaDoorJTP
import Derived.Test.YthclfkhakmcnbaaDoorJTN
import Derived.Test.YthclfkhakmcnbaaDoorJTQ
/- The law SpaceBound, walked. -/
namespace Go.Proofs.YthclfkhakmcnbaaDoor
open Go.RowKit Go.Shelf
attribute [local go_sem] Oper.semAt_some
set_option maxRecDepth 100000 in
set_option maxHeartbeats 8000000 in
theorem slBoundA_any (l : List ObjD) (hl : l.length ≤ maxLen) (hi : ∀ x ∈ l, OkO x) (v : Value) (qu : Int) (n : List UInt8) (hn : n.length ≤ maxLen) (k m : Int) (t : List UInt8) (ht : t.length ≤ maxLen) (pickA : Hid (makeE (fewS l) qu (n.take 50) k m = 0)) (pickB : Hid (writeE (fewS l) qu (n.take 50) m (t.take 1010) = 0)) (ea : Addr) (w : World)
    (hge : w.cell? ⟨0, 0, none⟩ = some (errV8 ea)) (het : ErrT w) (hv : ObjsV w v l) :
    Calls Tryd.prog 4 #[v, .int .i64 qu, .string ⟨n.toArray⟩, .int .i64 k, .int .i64 m, .string ⟨t.toArray⟩] w fun e w' => e = .returned (.bool true) ∧ Below w.heap.size w w' := by
  have HSh := fun W (h : KeepC w W) => shown10_any ea W (h.2 _ _ _ hge) (h.2 _ _ _ het)
  have HF := fun W (h : KeepC w W) => few10_any l hl hi v W (hv.keep h)
  have fL := fewS_fitsX l
  have hL22 := fewS_len l
  generalize fewS l = L at *
  have HC := fun W => cut10_any n hn W
  have HT := fun W => long10_any t ht W
  have hn5 : (n.take 50).length ≤ maxLen := by rw [List.length_take]; omega
  have ht5 : (t.take 1010).length ≤ 1000000 := by rw [List.length_take]; omega
  generalize n.take 50 = N at *
  generalize t.take 1010 = T at *
  have HW := fun W (h : KeepC w W) v1 (h1 : ObjsV W v1 L) => Cost_any L fL v1 ea W (h.2 _ _ _ hge) h1
  have H1 := fun W (h : KeepC w W) v1 (h1 : ObjsV W v1 L) => Make_any L fL v1 qu N hn5 k m ea W (h.2 _ _ _ hge) (h.2 _ _ _ het) h1
  have H2 := fun W (h : KeepC w W) v1 (h1 : ObjsV W v1 L) => Write_any L fL v1 qu N m T ht5 ea W (h.2 _ _ _ hge) (h.2 _ _ _ het) h1
  have H3 := fun W (h : KeepC w W) v1 (h1 : ObjsV W v1 L) => CutS_any L fL v1 qu N m ea W (h.2 _ _ _ hge) (h.2 _ _ _ het) h1
  have H4 := fun W (h : KeepC w W) v1 (h1 : ObjsV W v1 L) => Drop_any L fL v1 N ea W (h.2 _ _ _ hge) (h.2 _ _ _ het) h1
  have fSA := make_fits fL qu N hn5 k m
  have fSB := writeS_fits fL qu N m T
  have fSC := cutS_fits fL qu N m
  have fSD := dropS_fits fL N
  have fA := Lib.hid (fun h => make_bound (l := L) (q := qu) (n := N) (k := k) (m := m) h)
  have fB := Lib.hid (fun h => write_bound (l := L) (q := qu) (n := N) (k := m) (t := T) h)
  have fC := Lib.hid (fun h => cut_bound (l := L) (q := qu) (n := N) (k := m) h)
  have fD := Lib.hid (fun h => drop_bound (l := L) (n := N) h)
  generalize makeS L qu N k m = SA at *
  generalize makeE L qu N k m = EA at *
  generalize writeS L qu N m T = SB at *
  generalize writeE L qu N m T = EB at *
  generalize cutS L qu N m = SC at *
  generalize cutE L qu N m = EC at *
  generalize dropS L N = SD at *
  generalize dropE L N = ED at *
  have RA := fun W (h : KeepC w W) v1 h1 => spaceRight_any SA fSA v1 ea W (h.2 _ _ _ hge) h1
  have CA := fun W (h : KeepC w W) v1 h1 => Cost_any SA fSA v1 ea W (h.2 _ _ _ hge) h1
  have RB := fun W (h : KeepC w W) v1 h1 => spaceRight_any SB fSB v1 ea W (h.2 _ _ _ hge) h1
  have CB := fun W (h : KeepC w W) v1 h1 => Cost_any SB fSB v1 ea W (h.2 _ _ _ hge) h1
  have RC := fun W (h : KeepC w W) v1 h1 => spaceRight_any SC fSC v1 ea W (h.2 _ _ _ hge) h1
  have CC := fun W (h : KeepC w W) v1 h1 => Cost_any SC fSC v1 ea W (h.2 _ _ _ hge) h1
  have RD := fun W (h : KeepC w W) v1 h1 => spaceRight_any SD fSD v1 ea W (h.2 _ _ _ hge) h1
  have CD := fun W (h : KeepC w W) v1 h1 => Cost_any SD fSD v1 ea W (h.2 _ _ _ hge) h1
  generalize costS L = cw at *
  generalize costS SA = cA at *
  generalize costS SB = cB at *
  generalize costS SC = cC at *
  generalize costS SD = cD at *
  obtain ⟨av, cv, rfl, -⟩ := hv.at
  clear hge het hv hi hl hn ht hn5 ht5 fSA fSB fSC fSD
  go_enter Tryd.func4, Tryd.ntmps4
  simp only [List.append_eq, List.cons_append, List.nil_append]
  go_wp2_with fail
  with_reducible refine (HSh _ (KeepC.refl _)).mono ?_
  rintro e w1 ⟨rfl, b1⟩
  have B1 := b1
  clear HSh
  go_wp2_with fail
  with_reducible refine (HF _ (KeepC.of_below B1)).mono ?_
  rintro e w2 ⟨vL, rfl, o2, b2⟩
  have B2 := B1.trans (b2.mono B1.size)
  clear b2 B1
  have pL := o2.view
  clear o2
  clear HF
  go_wp2_with fail
  with_reducible refine (HC _).mono ?_
  rintro e w2' ⟨rfl, rfl⟩
  go_wp2_with fail
  with_reducible refine (HW _ (KeepC.of_below B2) _ pL).mono ?_
  rintro e w3 ⟨rfl, b3⟩
  have B3 := B2.trans (b3.mono B2.size)
  replace pL := pL.keep (KeepC.of_below b3)
  clear b3 B2
  go_wp2_with fail
  with_reducible refine (H1 _ (KeepC.of_below B3) _ pL).mono ?_
  rintro e w4 ⟨v4, rfl, o4, b4⟩
  have B4 := B3.trans (b4.mono B3.size)
  replace pL := pL.keep (KeepC.of_below b4)
  clear b4 B3
  have pA := o4.view
  clear o4
  go_wp2_with fail
  with_reducible refine (HT _).mono ?_
  rintro e w4' ⟨rfl, rfl⟩
  go_wp2_with fail
  with_reducible refine (H2 _ (KeepC.of_below B4) _ pL).mono ?_
  rintro e w5 ⟨v5, rfl, o5, b5⟩
  have B5 := B4.trans (b5.mono B4.size)
  replace pL := pL.keep (KeepC.of_below b5)
  replace pA := pA.keep (KeepC.of_below b5)
  clear b5 B4
  have pB := o5.view
  clear o5
  go_wp2_with fail
  with_reducible refine (H3 _ (KeepC.of_below B5) _ pL).mono ?_
  rintro e w6 ⟨v6, rfl, o6, b6⟩
  have B6 := B5.trans (b6.mono B5.size)
  replace pL := pL.keep (KeepC.of_below b6)
  replace pA := pA.keep (KeepC.of_below b6)
  replace pB := pB.keep (KeepC.of_below b6)
  clear b6 B5
  have pC := o6.view
  clear o6
  go_wp2_with fail
  with_reducible refine (H4 _ (KeepC.of_below B6) _ pL).mono ?_
  rintro e w7 ⟨v7, rfl, o7, b7⟩
  have B7 := B6.trans (b7.mono B6.size)
  replace pL := pL.keep (KeepC.of_below b7)
  replace pA := pA.keep (KeepC.of_below b7)
  replace pB := pB.keep (KeepC.of_below b7)
  replace pC := pC.keep (KeepC.of_below b7)
  clear b7 B6
  have pD := o7.view
  clear o7
  clear H1 H2 H3 H4 HW HC HT fL pL
  have hA := pickA.out
  clear pickA
  obtain ⟨f1, f2, f3⟩ := fA.out hA
  have hR := fun W h v1 h1 => RA W h v1 h1
  rw [f1] at hR
  clear RA fA f1
  subst hA
  go_wp2_with fail
  with_reducible refine (hR _ (KeepC.of_below B7) _ pA).mono ?_
  rintro e w8 ⟨rfl, b8⟩
  have B8 := B7.trans (b8.mono B7.size)
  replace pA := pA.keep (KeepC.of_below b8)
  replace pB := pB.keep (KeepC.of_below b8)
  replace pC := pC.keep (KeepC.of_below b8)
  replace pD := pD.keep (KeepC.of_below b8)
  clear b8 B7
  go_wp2_with fail
  with_reducible refine (CA _ (KeepC.of_below B8) _ pA).mono ?_
  rintro e w9 ⟨rfl, b9⟩
  have B9 := B8.trans (b9.mono B8.size)
  replace pA := pA.keep (KeepC.of_below b9)
  replace pB := pB.keep (KeepC.of_below b9)
  replace pC := pC.keep (KeepC.of_below b9)
  replace pD := pD.keep (KeepC.of_below b9)
  clear b9 B8
  go_wp2_with fail
  with_reducible refine (CA _ (KeepC.of_below B9) _ pA).mono ?_
  rintro e w10 ⟨rfl, b10⟩
  have B10 := B9.trans (b10.mono B9.size)
  replace pA := pA.keep (KeepC.of_below b10)
  replace pB := pB.keep (KeepC.of_below b10)
  replace pC := pC.keep (KeepC.of_below b10)
  replace pD := pD.keep (KeepC.of_below b10)
  clear b10 B9
  clear CA pA hR
  have hB := pickB.out
  clear pickB
  obtain ⟨f1, f2⟩ := fB.out hB
  have hR := fun W h v1 h1 => RB W h v1 h1
  rw [f1] at hR
  clear RB fB f1
  subst hB
  go_wp2_with fail
  with_reducible refine (hR _ (KeepC.of_below B10) _ pB).mono ?_
  rintro e w11 ⟨rfl, b11⟩
  have B11 := B10.trans (b11.mono B10.size)
  replace pB := pB.keep (KeepC.of_below b11)
  replace pC := pC.keep (KeepC.of_below b11)
  replace pD := pD.keep (KeepC.of_below b11)
  clear b11 B10
  go_wp2_with fail
  with_reducible refine (CB _ (KeepC.of_below B11) _ pB).mono ?_
  rintro e w12 ⟨rfl, b12⟩
  have B12 := B11.trans (b12.mono B11.size)
  replace pB := pB.keep (KeepC.of_below b12)
  replace pC := pC.keep (KeepC.of_below b12)
  replace pD := pD.keep (KeepC.of_below b12)
  clear b12 B11
  clear CB pB hR
  by_cases hC : EC = 0
  · obtain ⟨f1, f2⟩ := fC.out hC
    have hR := fun W h v1 h1 => RC W h v1 h1
    rw [f1] at hR
    clear RC fC f1
    subst hC
    go_wp2_with fail
    with_reducible refine (hR _ (KeepC.of_below B12) _ pC).mono ?_
    rintro e w13 ⟨rfl, b13⟩
    have B13 := B12.trans (b13.mono B12.size)
    replace pC := pC.keep (KeepC.of_below b13)
    replace pD := pD.keep (KeepC.of_below b13)
    clear b13 B12
    go_wp2_with fail
    with_reducible refine (CC _ (KeepC.of_below B13) _ pC).mono ?_
    rintro e w14 ⟨rfl, b14⟩
    have B14 := B13.trans (b14.mono B13.size)
    replace pC := pC.keep (KeepC.of_below b14)
    replace pD := pD.keep (KeepC.of_below b14)
    clear b14 B13
    clear CC pC hR
    by_cases hD : ED = 0
    · obtain ⟨f1, f2⟩ := fD.out hD
      have hR := fun W h v1 h1 => RD W h v1 h1
      rw [f1] at hR
      clear RD fD f1
      subst hD
      go_wp2_with fail
      with_reducible refine (hR _ (KeepC.of_below B14) _ pD).mono ?_
      rintro e w15 ⟨rfl, b15⟩
      have B15 := B14.trans (b15.mono B14.size)
      replace pD := pD.keep (KeepC.of_below b15)
      clear b15 B14
      go_wp2_with fail
      with_reducible refine (CD _ (KeepC.of_below B15) _ pD).mono ?_
      rintro e w16 ⟨rfl, b16⟩
      have B16 := B15.trans (b16.mono B15.size)
      replace pD := pD.keep (KeepC.of_below b16)
      clear b16 B15
      clear CD pD hR
      go_wp2_with fail
      go_ret
      exact ⟨rfl, B16⟩
    · have hbD : (ED != 0) = true := by simpa using hD
      clear RD CD fD hD pD
      go_wp2_with fail
      go_ret
      exact ⟨rfl, B14⟩
  · have hbC : (EC != 0) = true := by simpa using hC
    clear RC CC fC hC pC
    by_cases hD : ED = 0
    · obtain ⟨f1, f2⟩ := fD.out hD
      have hR := fun W h v1 h1 => RD W h v1 h1
      rw [f1] at hR
      clear RD fD f1
      subst hD
      go_wp2_with fail
      with_reducible refine (hR _ (KeepC.of_below B12) _ pD).mono ?_
      rintro e w13 ⟨rfl, b13⟩
      have B13 := B12.trans (b13.mono B12.size)
      replace pD := pD.keep (KeepC.of_below b13)
      clear b13 B12
      go_wp2_with fail
      with_reducible refine (CD _ (KeepC.of_below B13) _ pD).mono ?_
      rintro e w14 ⟨rfl, b14⟩
      have B14 := B13.trans (b14.mono B13.size)
      replace pD := pD.keep (KeepC.of_below b14)
      clear b14 B13
      clear CD pD hR
      go_wp2_with fail
      go_ret
      exact ⟨rfl, B14⟩
    · have hbD : (ED != 0) = true := by simpa using hD
      clear RD CD fD hD pD
      go_wp2_with fail
      go_ret
      exact ⟨rfl, B12⟩
end Go.Proofs.YthclfkhakmcnbaaDoor
/- The law SpaceBound, walked. -/
namespace Go.Proofs.YthclfkhakmcnbaaDoor
open Go.RowKit Go.Shelf
attribute [local go_sem] Oper.semAt_some
set_option maxRecDepth 100000 in
set_option maxHeartbeats 8000000 in
theorem slBoundB_any (l : List ObjD) (hl : l.length ≤ maxLen) (hi : ∀ x ∈ l, OkO x) (v : Value) (qu : Int) (n : List UInt8) (hn : n.length ≤ maxLen) (k m : Int) (t : List UInt8) (ht : t.length ≤ maxLen) (pickA : Hid (makeE (fewS l) qu (n.take 50) k m = 0)) (pickB : Hid (writeE (fewS l) qu (n.take 50) m (t.take 1010) ≠ 0)) (ea : Addr) (w : World)
    (hge : w.cell? ⟨0, 0, none⟩ = some (errV8 ea)) (het : ErrT w) (hv : ObjsV w v l) :
    Calls Tryd.prog 4 #[v, .int .i64 qu, .string ⟨n.toArray⟩, .int .i64 k, .int .i64 m, .string ⟨t.toArray⟩] w fun e w' => e = .returned (.bool true) ∧ Below w.heap.size w w' := by
  have HSh := fun W (h : KeepC w W) => shown10_any ea W (h.2 _ _ _ hge) (h.2 _ _ _ het)
  have HF := fun W (h : KeepC w W) => few10_any l hl hi v W (hv.keep h)
  have fL := fewS_fitsX l
  have hL22 := fewS_len l
  generalize fewS l = L at *
  have HC := fun W => cut10_any n hn W
  have HT := fun W => long10_any t ht W
  have hn5 : (n.take 50).length ≤ maxLen := by rw [List.length_take]; omega
  have ht5 : (t.take 1010).length ≤ 1000000 := by rw [List.length_take]; omega
  generalize n.take 50 = N at *
  generalize t.take 1010 = T at *
  have HW := fun W (h : KeepC w W) v1 (h1 : ObjsV W v1 L) => Cost_any L fL v1 ea W (h.2 _ _ _ hge) h1
  have H1 := fun W (h : KeepC w W) v1 (h1 : ObjsV W v1 L) => Make_any L fL v1 qu N hn5 k m ea W (h.2 _ _ _ hge) (h.2 _ _ _ het) h1
  have H2 := fun W (h : KeepC w W) v1 (h1 : ObjsV W v1 L) => Write_any L fL v1 qu N m T ht5 ea W (h.2 _ _ _ hge) (h.2 _ _ _ het) h1
  have H3 := fun W (h : KeepC w W) v1 (h1 : ObjsV W v1 L) => CutS_any L fL v1 qu N m ea W (h.2 _ _ _ hge) (h.2 _ _ _ het) h1
  have H4 := fun W (h : KeepC w W) v1 (h1 : ObjsV W v1 L) => Drop_any L fL v1 N ea W (h.2 _ _ _ hge) (h.2 _ _ _ het) h1
  have fSA := make_fits fL qu N hn5 k m
  have fSB := writeS_fits fL qu N m T
  have fSC := cutS_fits fL qu N m
  have fSD := dropS_fits fL N
  have fA := Lib.hid (fun h => make_bound (l := L) (q := qu) (n := N) (k := k) (m := m) h)
  have fB := Lib.hid (fun h => write_bound (l := L) (q := qu) (n := N) (k := m) (t := T) h)
  have fC := Lib.hid (fun h => cut_bound (l := L) (q := qu) (n := N) (k := m) h)
  have fD := Lib.hid (fun h => drop_bound (l := L) (n := N) h)
  generalize makeS L qu N k m = SA at *
  generalize makeE L qu N k m = EA at *
  generalize writeS L qu N m T = SB at *
  generalize writeE L qu N m T = EB at *
  generalize cutS L qu N m = SC at *
  generalize cutE L qu N m = EC at *
  generalize dropS L N = SD at *
  generalize dropE L N = ED at *
  have RA := fun W (h : KeepC w W) v1 h1 => spaceRight_any SA fSA v1 ea W (h.2 _ _ _ hge) h1
  have CA := fun W (h : KeepC w W) v1 h1 => Cost_any SA fSA v1 ea W (h.2 _ _ _ hge) h1
  have RB := fun W (h : KeepC w W) v1 h1 => spaceRight_any SB fSB v1 ea W (h.2 _ _ _ hge) h1
  have CB := fun W (h : KeepC w W) v1 h1 => Cost_any SB fSB v1 ea W (h.2 _ _ _ hge) h1
  have RC := fun W (h : KeepC w W) v1 h1 => spaceRight_any SC fSC v1 ea W (h.2 _ _ _ hge) h1
  have CC := fun W (h : KeepC w W) v1 h1 => Cost_any SC fSC v1 ea W (h.2 _ _ _ hge) h1
  have RD := fun W (h : KeepC w W) v1 h1 => spaceRight_any SD fSD v1 ea W (h.2 _ _ _ hge) h1
  have CD := fun W (h : KeepC w W) v1 h1 => Cost_any SD fSD v1 ea W (h.2 _ _ _ hge) h1
  generalize costS L = cw at *
  generalize costS SA = cA at *
  generalize costS SB = cB at *
  generalize costS SC = cC at *
  generalize costS SD = cD at *
  obtain ⟨av, cv, rfl, -⟩ := hv.at
  clear hge het hv hi hl hn ht hn5 ht5 fSA fSB fSC fSD
  go_enter Tryd.func4, Tryd.ntmps4
  simp only [List.append_eq, List.cons_append, List.nil_append]
  go_wp2_with fail
  with_reducible refine (HSh _ (KeepC.refl _)).mono ?_
  rintro e w1 ⟨rfl, b1⟩
  have B1 := b1
  clear HSh
  go_wp2_with fail
  with_reducible refine (HF _ (KeepC.of_below B1)).mono ?_
  rintro e w2 ⟨vL, rfl, o2, b2⟩
  have B2 := B1.trans (b2.mono B1.size)
  clear b2 B1
  have pL := o2.view
  clear o2
  clear HF
  go_wp2_with fail
  with_reducible refine (HC _).mono ?_
  rintro e w2' ⟨rfl, rfl⟩
  go_wp2_with fail
  with_reducible refine (HW _ (KeepC.of_below B2) _ pL).mono ?_
  rintro e w3 ⟨rfl, b3⟩
  have B3 := B2.trans (b3.mono B2.size)
  replace pL := pL.keep (KeepC.of_below b3)
  clear b3 B2
  go_wp2_with fail
  with_reducible refine (H1 _ (KeepC.of_below B3) _ pL).mono ?_
  rintro e w4 ⟨v4, rfl, o4, b4⟩
  have B4 := B3.trans (b4.mono B3.size)
  replace pL := pL.keep (KeepC.of_below b4)
  clear b4 B3
  have pA := o4.view
  clear o4
  go_wp2_with fail
  with_reducible refine (HT _).mono ?_
  rintro e w4' ⟨rfl, rfl⟩
  go_wp2_with fail
  with_reducible refine (H2 _ (KeepC.of_below B4) _ pL).mono ?_
  rintro e w5 ⟨v5, rfl, o5, b5⟩
  have B5 := B4.trans (b5.mono B4.size)
  replace pL := pL.keep (KeepC.of_below b5)
  replace pA := pA.keep (KeepC.of_below b5)
  clear b5 B4
  have pB := o5.view
  clear o5
  go_wp2_with fail
  with_reducible refine (H3 _ (KeepC.of_below B5) _ pL).mono ?_
  rintro e w6 ⟨v6, rfl, o6, b6⟩
  have B6 := B5.trans (b6.mono B5.size)
  replace pL := pL.keep (KeepC.of_below b6)
  replace pA := pA.keep (KeepC.of_below b6)
  replace pB := pB.keep (KeepC.of_below b6)
  clear b6 B5
  have pC := o6.view
  clear o6
  go_wp2_with fail
  with_reducible refine (H4 _ (KeepC.of_below B6) _ pL).mono ?_
  rintro e w7 ⟨v7, rfl, o7, b7⟩
  have B7 := B6.trans (b7.mono B6.size)
  replace pL := pL.keep (KeepC.of_below b7)
  replace pA := pA.keep (KeepC.of_below b7)
  replace pB := pB.keep (KeepC.of_below b7)
  replace pC := pC.keep (KeepC.of_below b7)
  clear b7 B6
  have pD := o7.view
  clear o7
  clear H1 H2 H3 H4 HW HC HT fL pL
  have hA := pickA.out
  clear pickA
  obtain ⟨f1, f2, f3⟩ := fA.out hA
  have hR := fun W h v1 h1 => RA W h v1 h1
  rw [f1] at hR
  clear RA fA f1
  subst hA
  go_wp2_with fail
  with_reducible refine (hR _ (KeepC.of_below B7) _ pA).mono ?_
  rintro e w8 ⟨rfl, b8⟩
  have B8 := B7.trans (b8.mono B7.size)
  replace pA := pA.keep (KeepC.of_below b8)
  replace pB := pB.keep (KeepC.of_below b8)
  replace pC := pC.keep (KeepC.of_below b8)
  replace pD := pD.keep (KeepC.of_below b8)
  clear b8 B7
  go_wp2_with fail
  with_reducible refine (CA _ (KeepC.of_below B8) _ pA).mono ?_
  rintro e w9 ⟨rfl, b9⟩
  have B9 := B8.trans (b9.mono B8.size)
  replace pA := pA.keep (KeepC.of_below b9)
  replace pB := pB.keep (KeepC.of_below b9)
  replace pC := pC.keep (KeepC.of_below b9)
  replace pD := pD.keep (KeepC.of_below b9)
  clear b9 B8
  go_wp2_with fail
  with_reducible refine (CA _ (KeepC.of_below B9) _ pA).mono ?_
  rintro e w10 ⟨rfl, b10⟩
  have B10 := B9.trans (b10.mono B9.size)
  replace pA := pA.keep (KeepC.of_below b10)
  replace pB := pB.keep (KeepC.of_below b10)
  replace pC := pC.keep (KeepC.of_below b10)
  replace pD := pD.keep (KeepC.of_below b10)
  clear b10 B9
  clear CA pA hR
  have hB := pickB.out
  clear pickB
  have hbB : (EB != 0) = true := by simpa using hB
  clear RB CB fB hB pB
  by_cases hC : EC = 0
  · obtain ⟨f1, f2⟩ := fC.out hC
    have hR := fun W h v1 h1 => RC W h v1 h1
    rw [f1] at hR
    clear RC fC f1
    subst hC
    go_wp2_with fail
    with_reducible refine (hR _ (KeepC.of_below B10) _ pC).mono ?_
    rintro e w11 ⟨rfl, b11⟩
    have B11 := B10.trans (b11.mono B10.size)
    replace pC := pC.keep (KeepC.of_below b11)
    replace pD := pD.keep (KeepC.of_below b11)
    clear b11 B10
    go_wp2_with fail
    with_reducible refine (CC _ (KeepC.of_below B11) _ pC).mono ?_
    rintro e w12 ⟨rfl, b12⟩
    have B12 := B11.trans (b12.mono B11.size)
    replace pC := pC.keep (KeepC.of_below b12)
    replace pD := pD.keep (KeepC.of_below b12)
    clear b12 B11
    clear CC pC hR
    by_cases hD : ED = 0
    · obtain ⟨f1, f2⟩ := fD.out hD
      have hR := fun W h v1 h1 => RD W h v1 h1
      rw [f1] at hR
      clear RD fD f1
      subst hD
      go_wp2_with fail
      with_reducible refine (hR _ (KeepC.of_below B12) _ pD).mono ?_
      rintro e w13 ⟨rfl, b13⟩
      have B13 := B12.trans (b13.mono B12.size)
      replace pD := pD.keep (KeepC.of_below b13)
      clear b13 B12
      go_wp2_with fail
      with_reducible refine (CD _ (KeepC.of_below B13) _ pD).mono ?_
      rintro e w14 ⟨rfl, b14⟩
      have B14 := B13.trans (b14.mono B13.size)
      replace pD := pD.keep (KeepC.of_below b14)
      clear b14 B13
      clear CD pD hR
      go_wp2_with fail
      go_ret
      exact ⟨rfl, B14⟩
    · have hbD : (ED != 0) = true := by simpa using hD
      clear RD CD fD hD pD
      go_wp2_with fail
      go_ret
      exact ⟨rfl, B12⟩
  · have hbC : (EC != 0) = true := by simpa using hC
    clear RC CC fC hC pC
    by_cases hD : ED = 0
    · obtain ⟨f1, f2⟩ := fD.out hD
      have hR := fun W h v1 h1 => RD W h v1 h1
      rw [f1] at hR
      clear RD fD f1
      subst hD
      go_wp2_with fail
      with_reducible refine (hR _ (KeepC.of_below B10) _ pD).mono ?_
      rintro e w11 ⟨rfl, b11⟩
      have B11 := B10.trans (b11.mono B10.size)
      replace pD := pD.keep (KeepC.of_below b11)
      clear b11 B10
      go_wp2_with fail
      with_reducible refine (CD _ (KeepC.of_below B11) _ pD).mono ?_
      rintro e w12 ⟨rfl, b12⟩
      have B12 := B11.trans (b12.mono B11.size)
      replace pD := pD.keep (KeepC.of_below b12)
      clear b12 B11
      clear CD pD hR
      go_wp2_with fail
      go_ret
      exact ⟨rfl, B12⟩
    · have hbD : (ED != 0) = true := by simpa using hD
      clear RD CD fD hD pD
      go_wp2_with fail
      go_ret
      exact ⟨rfl, B10⟩
end Go.Proofs.YthclfkhakmcnbaaDoor
/- The law SpaceBound, walked. -/
namespace Go.Proofs.YthclfkhakmcnbaaDoor
open Go.RowKit Go.Shelf
attribute [local go_sem] Oper.semAt_some
set_option maxRecDepth 100000 in
set_option maxHeartbeats 8000000 in
theorem slBoundC_any (l : List ObjD) (hl : l.length ≤ maxLen) (hi : ∀ x ∈ l, OkO x) (v : Value) (qu : Int) (n : List UInt8) (hn : n.length ≤ maxLen) (k m : Int) (t : List UInt8) (ht : t.length ≤ maxLen) (pickA : Hid (makeE (fewS l) qu (n.take 50) k m ≠ 0)) (pickB : Hid (writeE (fewS l) qu (n.take 50) m (t.take 1010) = 0)) (ea : Addr) (w : World)
    (hge : w.cell? ⟨0, 0, none⟩ = some (errV8 ea)) (het : ErrT w) (hv : ObjsV w v l) :
    Calls Tryd.prog 4 #[v, .int .i64 qu, .string ⟨n.toArray⟩, .int .i64 k, .int .i64 m, .string ⟨t.toArray⟩] w fun e w' => e = .returned (.bool true) ∧ Below w.heap.size w w' := by
  have HSh := fun W (h : KeepC w W) => shown10_any ea W (h.2 _ _ _ hge) (h.2 _ _ _ het)
  have HF := fun W (h : KeepC w W) => few10_any l hl hi v W (hv.keep h)
  have fL := fewS_fitsX l
  have hL22 := fewS_len l
  generalize fewS l = L at *
  have HC := fun W => cut10_any n hn W
  have HT := fun W => long10_any t ht W
  have hn5 : (n.take 50).length ≤ maxLen := by rw [List.length_take]; omega
  have ht5 : (t.take 1010).length ≤ 1000000 := by rw [List.length_take]; omega
  generalize n.take 50 = N at *
  generalize t.take 1010 = T at *
  have HW := fun W (h : KeepC w W) v1 (h1 : ObjsV W v1 L) => Cost_any L fL v1 ea W (h.2 _ _ _ hge) h1
  have H1 := fun W (h : KeepC w W) v1 (h1 : ObjsV W v1 L) => Make_any L fL v1 qu N hn5 k m ea W (h.2 _ _ _ hge) (h.2 _ _ _ het) h1
  have H2 := fun W (h : KeepC w W) v1 (h1 : ObjsV W v1 L) => Write_any L fL v1 qu N m T ht5 ea W (h.2 _ _ _ hge) (h.2 _ _ _ het) h1
  have H3 := fun W (h : KeepC w W) v1 (h1 : ObjsV W v1 L) => CutS_any L fL v1 qu N m ea W (h.2 _ _ _ hge) (h.2 _ _ _ het) h1
  have H4 := fun W (h : KeepC w W) v1 (h1 : ObjsV W v1 L) => Drop_any L fL v1 N ea W (h.2 _ _ _ hge) (h.2 _ _ _ het) h1
  have fSA := make_fits fL qu N hn5 k m
  have fSB := writeS_fits fL qu N m T
  have fSC := cutS_fits fL qu N m
  have fSD := dropS_fits fL N
  have fA := Lib.hid (fun h => make_bound (l := L) (q := qu) (n := N) (k := k) (m := m) h)
  have fB := Lib.hid (fun h => write_bound (l := L) (q := qu) (n := N) (k := m) (t := T) h)
  have fC := Lib.hid (fun h => cut_bound (l := L) (q := qu) (n := N) (k := m) h)
  have fD := Lib.hid (fun h => drop_bound (l := L) (n := N) h)
  generalize makeS L qu N k m = SA at *
  generalize makeE L qu N k m = EA at *
  generalize writeS L qu N m T = SB at *
  generalize writeE L qu N m T = EB at *
  generalize cutS L qu N m = SC at *
  generalize cutE L qu N m = EC at *
  generalize dropS L N = SD at *
  generalize dropE L N = ED at *
  have RA := fun W (h : KeepC w W) v1 h1 => spaceRight_any SA fSA v1 ea W (h.2 _ _ _ hge) h1
  have CA := fun W (h : KeepC w W) v1 h1 => Cost_any SA fSA v1 ea W (h.2 _ _ _ hge) h1
  have RB := fun W (h : KeepC w W) v1 h1 => spaceRight_any SB fSB v1 ea W (h.2 _ _ _ hge) h1
  have CB := fun W (h : KeepC w W) v1 h1 => Cost_any SB fSB v1 ea W (h.2 _ _ _ hge) h1
  have RC := fun W (h : KeepC w W) v1 h1 => spaceRight_any SC fSC v1 ea W (h.2 _ _ _ hge) h1
  have CC := fun W (h : KeepC w W) v1 h1 => Cost_any SC fSC v1 ea W (h.2 _ _ _ hge) h1
  have RD := fun W (h : KeepC w W) v1 h1 => spaceRight_any SD fSD v1 ea W (h.2 _ _ _ hge) h1
  have CD := fun W (h : KeepC w W) v1 h1 => Cost_any SD fSD v1 ea W (h.2 _ _ _ hge) h1
  generalize costS L = cw at *
  generalize costS SA = cA at *
  generalize costS SB = cB at *
  generalize costS SC = cC at *
  generalize costS SD = cD at *
  obtain ⟨av, cv, rfl, -⟩ := hv.at
  clear hge het hv hi hl hn ht hn5 ht5 fSA fSB fSC fSD
  go_enter Tryd.func4, Tryd.ntmps4
  simp only [List.append_eq, List.cons_append, List.nil_append]
  go_wp2_with fail
  with_reducible refine (HSh _ (KeepC.refl _)).mono ?_
  rintro e w1 ⟨rfl, b1⟩
  have B1 := b1
  clear HSh
  go_wp2_with fail
  with_reducible refine (HF _ (KeepC.of_below B1)).mono ?_
  rintro e w2 ⟨vL, rfl, o2, b2⟩
  have B2 := B1.trans (b2.mono B1.size)
  clear b2 B1
  have pL := o2.view
  clear o2
  clear HF
  go_wp2_with fail
  with_reducible refine (HC _).mono ?_
  rintro e w2' ⟨rfl, rfl⟩
  go_wp2_with fail
  with_reducible refine (HW _ (KeepC.of_below B2) _ pL).mono ?_
  rintro e w3 ⟨rfl, b3⟩
  have B3 := B2.trans (b3.mono B2.size)
  replace pL := pL.keep (KeepC.of_below b3)
  clear b3 B2
  go_wp2_with fail
  with_reducible refine (H1 _ (KeepC.of_below B3) _ pL).mono ?_
  rintro e w4 ⟨v4, rfl, o4, b4⟩
  have B4 := B3.trans (b4.mono B3.size)
  replace pL := pL.keep (KeepC.of_below b4)
  clear b4 B3
  have pA := o4.view
  clear o4
  go_wp2_with fail
  with_reducible refine (HT _).mono ?_
  rintro e w4' ⟨rfl, rfl⟩
  go_wp2_with fail
  with_reducible refine (H2 _ (KeepC.of_below B4) _ pL).mono ?_
  rintro e w5 ⟨v5, rfl, o5, b5⟩
  have B5 := B4.trans (b5.mono B4.size)
  replace pL := pL.keep (KeepC.of_below b5)
  replace pA := pA.keep (KeepC.of_below b5)
  clear b5 B4
  have pB := o5.view
  clear o5
  go_wp2_with fail
  with_reducible refine (H3 _ (KeepC.of_below B5) _ pL).mono ?_
  rintro e w6 ⟨v6, rfl, o6, b6⟩
  have B6 := B5.trans (b6.mono B5.size)
  replace pL := pL.keep (KeepC.of_below b6)
  replace pA := pA.keep (KeepC.of_below b6)
  replace pB := pB.keep (KeepC.of_below b6)
  clear b6 B5
  have pC := o6.view
  clear o6
  go_wp2_with fail
  with_reducible refine (H4 _ (KeepC.of_below B6) _ pL).mono ?_
  rintro e w7 ⟨v7, rfl, o7, b7⟩
  have B7 := B6.trans (b7.mono B6.size)
  replace pL := pL.keep (KeepC.of_below b7)
  replace pA := pA.keep (KeepC.of_below b7)
  replace pB := pB.keep (KeepC.of_below b7)
  replace pC := pC.keep (KeepC.of_below b7)
  clear b7 B6
  have pD := o7.view
  clear o7
  clear H1 H2 H3 H4 HW HC HT fL pL
  have hA := pickA.out
  clear pickA
  have hbA : (EA != 0) = true := by simpa using hA
  clear RA CA fA hA pA
  have hB := pickB.out
  clear pickB
  obtain ⟨f1, f2⟩ := fB.out hB
  have hR := fun W h v1 h1 => RB W h v1 h1
  rw [f1] at hR
  clear RB fB f1
  subst hB
  go_wp2_with fail
  with_reducible refine (hR _ (KeepC.of_below B7) _ pB).mono ?_
  rintro e w8 ⟨rfl, b8⟩
  have B8 := B7.trans (b8.mono B7.size)
  replace pB := pB.keep (KeepC.of_below b8)
  replace pC := pC.keep (KeepC.of_below b8)
  replace pD := pD.keep (KeepC.of_below b8)
  clear b8 B7
  go_wp2_with fail
  with_reducible refine (CB _ (KeepC.of_below B8) _ pB).mono ?_
  rintro e w9 ⟨rfl, b9⟩
  have B9 := B8.trans (b9.mono B8.size)
  replace pB := pB.keep (KeepC.of_below b9)
  replace pC := pC.keep (KeepC.of_below b9)
  replace pD := pD.keep (KeepC.of_below b9)
  clear b9 B8
  clear CB pB hR
  by_cases hC : EC = 0
  · obtain ⟨f1, f2⟩ := fC.out hC
    have hR := fun W h v1 h1 => RC W h v1 h1
    rw [f1] at hR
    clear RC fC f1
    subst hC
    go_wp2_with fail
    with_reducible refine (hR _ (KeepC.of_below B9) _ pC).mono ?_
    rintro e w10 ⟨rfl, b10⟩
    have B10 := B9.trans (b10.mono B9.size)
    replace pC := pC.keep (KeepC.of_below b10)
    replace pD := pD.keep (KeepC.of_below b10)
    clear b10 B9
    go_wp2_with fail
    with_reducible refine (CC _ (KeepC.of_below B10) _ pC).mono ?_
    rintro e w11 ⟨rfl, b11⟩
    have B11 := B10.trans (b11.mono B10.size)
    replace pC := pC.keep (KeepC.of_below b11)
    replace pD := pD.keep (KeepC.of_below b11)
    clear b11 B10
    clear CC pC hR
    by_cases hD : ED = 0
    · obtain ⟨f1, f2⟩ := fD.out hD
      have hR := fun W h v1 h1 => RD W h v1 h1
      rw [f1] at hR
      clear RD fD f1
      subst hD
      go_wp2_with fail
      with_reducible refine (hR _ (KeepC.of_below B11) _ pD).mono ?_
      rintro e w12 ⟨rfl, b12⟩
      have B12 := B11.trans (b12.mono B11.size)
      replace pD := pD.keep (KeepC.of_below b12)
      clear b12 B11
      go_wp2_with fail
      with_reducible refine (CD _ (KeepC.of_below B12) _ pD).mono ?_
      rintro e w13 ⟨rfl, b13⟩
      have B13 := B12.trans (b13.mono B12.size)
      replace pD := pD.keep (KeepC.of_below b13)
      clear b13 B12
      clear CD pD hR
      go_wp2_with fail
      go_ret
      exact ⟨rfl, B13⟩
    · have hbD : (ED != 0) = true := by simpa using hD
      clear RD CD fD hD pD
      go_wp2_with fail
      go_ret
      exact ⟨rfl, B11⟩
  · have hbC : (EC != 0) = true := by simpa using hC
    clear RC CC fC hC pC
    by_cases hD : ED = 0
    · obtain ⟨f1, f2⟩ := fD.out hD
      have hR := fun W h v1 h1 => RD W h v1 h1
      rw [f1] at hR
      clear RD fD f1
      subst hD
      go_wp2_with fail
      with_reducible refine (hR _ (KeepC.of_below B9) _ pD).mono ?_
      rintro e w10 ⟨rfl, b10⟩
      have B10 := B9.trans (b10.mono B9.size)
      replace pD := pD.keep (KeepC.of_below b10)
      clear b10 B9
      go_wp2_with fail
      with_reducible refine (CD _ (KeepC.of_below B10) _ pD).mono ?_
      rintro e w11 ⟨rfl, b11⟩
      have B11 := B10.trans (b11.mono B10.size)
      replace pD := pD.keep (KeepC.of_below b11)
      clear b11 B10
      clear CD pD hR
      go_wp2_with fail
      go_ret
      exact ⟨rfl, B11⟩
    · have hbD : (ED != 0) = true := by simpa using hD
      clear RD CD fD hD pD
      go_wp2_with fail
      go_ret
      exact ⟨rfl, B9⟩
end Go.Proofs.YthclfkhakmcnbaaDoor
/- The law SpaceBound, walked. -/
namespace Go.Proofs.YthclfkhakmcnbaaDoor
open Go.RowKit Go.Shelf
attribute [local go_sem] Oper.semAt_some
set_option maxRecDepth 100000 in
set_option maxHeartbeats 8000000 in
theorem slBoundD_any (l : List ObjD) (hl : l.length ≤ maxLen) (hi : ∀ x ∈ l, OkO x) (v : Value) (qu : Int) (n : List UInt8) (hn : n.length ≤ maxLen) (k m : Int) (t : List UInt8) (ht : t.length ≤ maxLen) (pickA : Hid (makeE (fewS l) qu (n.take 50) k m ≠ 0)) (pickB : Hid (writeE (fewS l) qu (n.take 50) m (t.take 1010) ≠ 0)) (ea : Addr) (w : World)
    (hge : w.cell? ⟨0, 0, none⟩ = some (errV8 ea)) (het : ErrT w) (hv : ObjsV w v l) :
    Calls Tryd.prog 4 #[v, .int .i64 qu, .string ⟨n.toArray⟩, .int .i64 k, .int .i64 m, .string ⟨t.toArray⟩] w fun e w' => e = .returned (.bool true) ∧ Below w.heap.size w w' := by
  have HSh := fun W (h : KeepC w W) => shown10_any ea W (h.2 _ _ _ hge) (h.2 _ _ _ het)
  have HF := fun W (h : KeepC w W) => few10_any l hl hi v W (hv.keep h)
  have fL := fewS_fitsX l
  have hL22 := fewS_len l
  generalize fewS l = L at *
  have HC := fun W => cut10_any n hn W
  have HT := fun W => long10_any t ht W
  have hn5 : (n.take 50).length ≤ maxLen := by rw [List.length_take]; omega
  have ht5 : (t.take 1010).length ≤ 1000000 := by rw [List.length_take]; omega
  generalize n.take 50 = N at *
  generalize t.take 1010 = T at *
  have HW := fun W (h : KeepC w W) v1 (h1 : ObjsV W v1 L) => Cost_any L fL v1 ea W (h.2 _ _ _ hge) h1
  have H1 := fun W (h : KeepC w W) v1 (h1 : ObjsV W v1 L) => Make_any L fL v1 qu N hn5 k m ea W (h.2 _ _ _ hge) (h.2 _ _ _ het) h1
  have H2 := fun W (h : KeepC w W) v1 (h1 : ObjsV W v1 L) => Write_any L fL v1 qu N m T ht5 ea W (h.2 _ _ _ hge) (h.2 _ _ _ het) h1
  have H3 := fun W (h : KeepC w W) v1 (h1 : ObjsV W v1 L) => CutS_any L fL v1 qu N m ea W (h.2 _ _ _ hge) (h.2 _ _ _ het) h1
  have H4 := fun W (h : KeepC w W) v1 (h1 : ObjsV W v1 L) => Drop_any L fL v1 N ea W (h.2 _ _ _ hge) (h.2 _ _ _ het) h1
  have fSA := make_fits fL qu N hn5 k m
  have fSB := writeS_fits fL qu N m T
  have fSC := cutS_fits fL qu N m
  have fSD := dropS_fits fL N
  have fA := Lib.hid (fun h => make_bound (l := L) (q := qu) (n := N) (k := k) (m := m) h)
  have fB := Lib.hid (fun h => write_bound (l := L) (q := qu) (n := N) (k := m) (t := T) h)
  have fC := Lib.hid (fun h => cut_bound (l := L) (q := qu) (n := N) (k := m) h)
  have fD := Lib.hid (fun h => drop_bound (l := L) (n := N) h)
  generalize makeS L qu N k m = SA at *
  generalize makeE L qu N k m = EA at *
  generalize writeS L qu N m T = SB at *
  generalize writeE L qu N m T = EB at *
  generalize cutS L qu N m = SC at *
  generalize cutE L qu N m = EC at *
  generalize dropS L N = SD at *
  generalize dropE L N = ED at *
  have RA := fun W (h : KeepC w W) v1 h1 => spaceRight_any SA fSA v1 ea W (h.2 _ _ _ hge) h1
  have CA := fun W (h : KeepC w W) v1 h1 => Cost_any SA fSA v1 ea W (h.2 _ _ _ hge) h1
  have RB := fun W (h : KeepC w W) v1 h1 => spaceRight_any SB fSB v1 ea W (h.2 _ _ _ hge) h1
  have CB := fun W (h : KeepC w W) v1 h1 => Cost_any SB fSB v1 ea W (h.2 _ _ _ hge) h1
  have RC := fun W (h : KeepC w W) v1 h1 => spaceRight_any SC fSC v1 ea W (h.2 _ _ _ hge) h1
  have CC := fun W (h : KeepC w W) v1 h1 => Cost_any SC fSC v1 ea W (h.2 _ _ _ hge) h1
  have RD := fun W (h : KeepC w W) v1 h1 => spaceRight_any SD fSD v1 ea W (h.2 _ _ _ hge) h1
  have CD := fun W (h : KeepC w W) v1 h1 => Cost_any SD fSD v1 ea W (h.2 _ _ _ hge) h1
  generalize costS L = cw at *
  generalize costS SA = cA at *
  generalize costS SB = cB at *
  generalize costS SC = cC at *
  generalize costS SD = cD at *
  obtain ⟨av, cv, rfl, -⟩ := hv.at
  clear hge het hv hi hl hn ht hn5 ht5 fSA fSB fSC fSD
  go_enter Tryd.func4, Tryd.ntmps4
  simp only [List.append_eq, List.cons_append, List.nil_append]
  go_wp2_with fail
  with_reducible refine (HSh _ (KeepC.refl _)).mono ?_
  rintro e w1 ⟨rfl, b1⟩
  have B1 := b1
  clear HSh
  go_wp2_with fail
  with_reducible refine (HF _ (KeepC.of_below B1)).mono ?_
  rintro e w2 ⟨vL, rfl, o2, b2⟩
  have B2 := B1.trans (b2.mono B1.size)
  clear b2 B1
  have pL := o2.view
  clear o2
  clear HF
  go_wp2_with fail
  with_reducible refine (HC _).mono ?_
  rintro e w2' ⟨rfl, rfl⟩
  go_wp2_with fail
  with_reducible refine (HW _ (KeepC.of_below B2) _ pL).mono ?_
  rintro e w3 ⟨rfl, b3⟩
  have B3 := B2.trans (b3.mono B2.size)
  replace pL := pL.keep (KeepC.of_below b3)
  clear b3 B2
  go_wp2_with fail
  with_reducible refine (H1 _ (KeepC.of_below B3) _ pL).mono ?_
  rintro e w4 ⟨v4, rfl, o4, b4⟩
  have B4 := B3.trans (b4.mono B3.size)
  replace pL := pL.keep (KeepC.of_below b4)
  clear b4 B3
  have pA := o4.view
  clear o4
  go_wp2_with fail
  with_reducible refine (HT _).mono ?_
  rintro e w4' ⟨rfl, rfl⟩
  go_wp2_with fail
  with_reducible refine (H2 _ (KeepC.of_below B4) _ pL).mono ?_
  rintro e w5 ⟨v5, rfl, o5, b5⟩
  have B5 := B4.trans (b5.mono B4.size)
  replace pL := pL.keep (KeepC.of_below b5)
  replace pA := pA.keep (KeepC.of_below b5)
  clear b5 B4
  have pB := o5.view
  clear o5
  go_wp2_with fail
  with_reducible refine (H3 _ (KeepC.of_below B5) _ pL).mono ?_
  rintro e w6 ⟨v6, rfl, o6, b6⟩
  have B6 := B5.trans (b6.mono B5.size)
  replace pL := pL.keep (KeepC.of_below b6)
  replace pA := pA.keep (KeepC.of_below b6)
  replace pB := pB.keep (KeepC.of_below b6)
  clear b6 B5
  have pC := o6.view
  clear o6
  go_wp2_with fail
  with_reducible refine (H4 _ (KeepC.of_below B6) _ pL).mono ?_
  rintro e w7 ⟨v7, rfl, o7, b7⟩
  have B7 := B6.trans (b7.mono B6.size)
  replace pL := pL.keep (KeepC.of_below b7)
  replace pA := pA.keep (KeepC.of_below b7)
  replace pB := pB.keep (KeepC.of_below b7)
  replace pC := pC.keep (KeepC.of_below b7)
  clear b7 B6
  have pD := o7.view
  clear o7
  clear H1 H2 H3 H4 HW HC HT fL pL
  have hA := pickA.out
  clear pickA
  have hbA : (EA != 0) = true := by simpa using hA
  clear RA CA fA hA pA
  have hB := pickB.out
  clear pickB
  have hbB : (EB != 0) = true := by simpa using hB
  clear RB CB fB hB pB
  by_cases hC : EC = 0
  · obtain ⟨f1, f2⟩ := fC.out hC
    have hR := fun W h v1 h1 => RC W h v1 h1
    rw [f1] at hR
    clear RC fC f1
    subst hC
    go_wp2_with fail
    with_reducible refine (hR _ (KeepC.of_below B7) _ pC).mono ?_
    rintro e w8 ⟨rfl, b8⟩
    have B8 := B7.trans (b8.mono B7.size)
    replace pC := pC.keep (KeepC.of_below b8)
    replace pD := pD.keep (KeepC.of_below b8)
    clear b8 B7
    go_wp2_with fail
    with_reducible refine (CC _ (KeepC.of_below B8) _ pC).mono ?_
    rintro e w9 ⟨rfl, b9⟩
    have B9 := B8.trans (b9.mono B8.size)
    replace pC := pC.keep (KeepC.of_below b9)
    replace pD := pD.keep (KeepC.of_below b9)
    clear b9 B8
    clear CC pC hR
    by_cases hD : ED = 0
    · obtain ⟨f1, f2⟩ := fD.out hD
      have hR := fun W h v1 h1 => RD W h v1 h1
      rw [f1] at hR
      clear RD fD f1
      subst hD
      go_wp2_with fail
      with_reducible refine (hR _ (KeepC.of_below B9) _ pD).mono ?_
      rintro e w10 ⟨rfl, b10⟩
      have B10 := B9.trans (b10.mono B9.size)
      replace pD := pD.keep (KeepC.of_below b10)
      clear b10 B9
      go_wp2_with fail
      with_reducible refine (CD _ (KeepC.of_below B10) _ pD).mono ?_
      rintro e w11 ⟨rfl, b11⟩
      have B11 := B10.trans (b11.mono B10.size)
      replace pD := pD.keep (KeepC.of_below b11)
      clear b11 B10
      clear CD pD hR
      go_wp2_with fail
      go_ret
      exact ⟨rfl, B11⟩
    · have hbD : (ED != 0) = true := by simpa using hD
      clear RD CD fD hD pD
      go_wp2_with fail
      go_ret
      exact ⟨rfl, B9⟩
  · have hbC : (EC != 0) = true := by simpa using hC
    clear RC CC fC hC pC
    by_cases hD : ED = 0
    · obtain ⟨f1, f2⟩ := fD.out hD
      have hR := fun W h v1 h1 => RD W h v1 h1
      rw [f1] at hR
      clear RD fD f1
      subst hD
      go_wp2_with fail
      with_reducible refine (hR _ (KeepC.of_below B7) _ pD).mono ?_
      rintro e w8 ⟨rfl, b8⟩
      have B8 := B7.trans (b8.mono B7.size)
      replace pD := pD.keep (KeepC.of_below b8)
      clear b8 B7
      go_wp2_with fail
      with_reducible refine (CD _ (KeepC.of_below B8) _ pD).mono ?_
      rintro e w9 ⟨rfl, b9⟩
      have B9 := B8.trans (b9.mono B8.size)
      replace pD := pD.keep (KeepC.of_below b9)
      clear b9 B8
      clear CD pD hR
      go_wp2_with fail
      go_ret
      exact ⟨rfl, B9⟩
    · have hbD : (ED != 0) = true := by simpa using hD
      clear RD CD fD hD pD
      go_wp2_with fail
      go_ret
      exact ⟨rfl, B7⟩
end Go.Proofs.YthclfkhakmcnbaaDoor
/- The law SpaceBound: its four parts joined. -/
namespace Go.Proofs.YthclfkhakmcnbaaDoor
open Go.RowKit Go.Shelf
theorem slBound_any (l : List ObjD) (hl : l.length ≤ maxLen) (hi : ∀ x ∈ l, OkO x) (v : Value) (qu : Int) (n : List UInt8) (hn : n.length ≤ maxLen) (k m : Int) (t : List UInt8) (ht : t.length ≤ maxLen) (ea : Addr) (w : World)
    (hge : w.cell? ⟨0, 0, none⟩ = some (errV8 ea)) (het : ErrT w) (hv : ObjsV w v l) :
    Calls Tryd.prog 4 #[v, .int .i64 qu, .string ⟨n.toArray⟩, .int .i64 k, .int .i64 m, .string ⟨t.toArray⟩] w fun e w' => e = .returned (.bool true) ∧ Below w.heap.size w w' := by
  by_cases hA : makeE (fewS l) qu (n.take 50) k m = 0
  · by_cases hB : writeE (fewS l) qu (n.take 50) m (t.take 1010) = 0
    · exact slBoundA_any l hl hi v qu n hn k m t ht (Lib.hid hA) (Lib.hid hB) ea w hge het hv
    · exact slBoundB_any l hl hi v qu n hn k m t ht (Lib.hid hA) (Lib.hid hB) ea w hge het hv
  · by_cases hB : writeE (fewS l) qu (n.take 50) m (t.take 1010) = 0
    · exact slBoundC_any l hl hi v qu n hn k m t ht (Lib.hid hA) (Lib.hid hB) ea w hge het hv
    · exact slBoundD_any l hl hi v qu n hn k m t ht (Lib.hid hA) (Lib.hid hB) ea w hge het hv
end Go.Proofs.YthclfkhakmcnbaaDoor
