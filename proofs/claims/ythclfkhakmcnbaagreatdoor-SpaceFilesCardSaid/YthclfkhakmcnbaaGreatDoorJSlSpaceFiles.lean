/- Joined: SlSpaceFiles -/
import Derived.Test.YthclfkhakmcnbaaGreatDoorJTP
import Derived.Test.YthclfkhakmcnbaaGreatDoorJTN
import Derived.Test.YthclfkhakmcnbaaGreatDoorJTQ
import Derived.Test.YthclfkhakmcnbaaGreatDoorJTZ
import Derived.Test.YthclfkhakmcnbaaGreatDoorJTR
/- The law SpaceFiles, walked. -/
namespace Go.Proofs.YthclfkhakmcnbaaGreatDoor
open Go.RowKit Go.Shelf
attribute [local go_sem] Oper.semAt_some
set_option maxRecDepth 100000 in
set_option maxHeartbeats 8000000 in
theorem slFiles_any (l : List ObjD) (hl : l.length ≤ maxLen) (hi : ∀ x ∈ l, OkO x) (v : Value) (qu : Int) (n : List UInt8) (hn : n.length ≤ maxLen) (k : Int) (t : List UInt8) (ht : t.length ≤ maxLen) (m : Int) (ea : Addr) (w : World)
    (hge : w.cell? ⟨0, 0, none⟩ = some (errV8 ea)) (het : ErrT w) (hv : ObjsV w v l) :
    Calls Tryz.prog 3 #[v, .int .i64 qu, .string ⟨n.toArray⟩, .int .i64 k, .string ⟨t.toArray⟩, .int .i64 m] w fun e w' => e = .returned (.bool true) ∧ Below w.heap.size w w' := by
  have HSh := fun W (h : KeepC w W) => shown10_any ea W (h.2 _ _ _ hge) (h.2 _ _ _ het)
  have HF := fun W (h : KeepC w W) => few10_any l hl hi v W (hv.keep h)
  have fL := fewS_fitsX l
  have hL22 := fewS_len l
  generalize fewS l = L at *
  have HC := fun W => cut10_any n hn W
  have HT := fun W => long10_any t ht W
  have hn5 : (n.take 50).length ≤ maxLen := by rw [List.length_take]; omega
  have ht5 : (t.take 1010).length ≤ 1000000 := by rw [List.length_take]; omega
  generalize n.take 50 = N at *
  generalize t.take 1010 = T at *
  have H1 := fun W (h : KeepC w W) v1 (h1 : ObjsV W v1 L) => Write_any L fL v1 qu N k T ht5 ea W (h.2 _ _ _ hge) (h.2 _ _ _ het) h1
  have H2 := fun W v1 (h1 : ObjsV W v1 L) => WriteR_any L fL v1 qu N k T ht5 W h1
  have H3 := fun W (h : KeepC w W) v1 (h1 : ObjsV W v1 L) => Read_any L fL v1 N k m ea W (h.2 _ _ _ hge) (h.2 _ _ _ het) h1
  have H4 := fun W v1 (h1 : ObjsV W v1 L) => ReadR_any L fL v1 N k m W h1
  have H5 := fun W (h : KeepC w W) v1 (h1 : ObjsV W v1 L) => CutS_any L fL v1 qu N m ea W (h.2 _ _ _ hge) (h.2 _ _ _ het) h1
  have H6 := fun W v1 (h1 : ObjsV W v1 L) => CutR_any L fL v1 qu N m W h1
  have fA := writeS_fits fL qu N k T
  have fC := cutS_fits fL qu N m
  generalize writeS L qu N k T = SA at *
  generalize writeE L qu N k T = EA at *
  generalize readS L N k m = SR at *
  generalize readE L N k m = ER at *
  generalize cutS L qu N m = SC at *
  generalize cutE L qu N m = EC at *
  have HS1 := fun W v1 v2 h1 h2 => sameR_any SA SA fA fA v1 v2 W h1 h2
  rw [sameS_refl] at HS1
  have HS2 := fun W v1 v2 h1 h2 => sameR_any SC SC fC fC v1 v2 W h1 h2
  rw [sameS_refl] at HS2
  obtain ⟨av, cv, rfl, -⟩ := hv.at
  clear hge het hv hi hl hn ht hn5 ht5 fA fC
  go_enter Tryz.func3, Tryz.ntmps3
  go_wp2_with fail
  with_reducible refine (HSh _ (KeepC.refl _)).mono ?_
  rintro e w1 ⟨rfl, b1⟩
  have B1 := b1
  clear HSh
  go_wp2_with fail
  with_reducible refine (HF _ (KeepC.of_below B1)).mono ?_
  rintro e w2 ⟨vL, rfl, o2, b2⟩
  have B2 := B1.trans (b2.mono B1.size)
  clear b2 B1
  have pL := o2.view
  clear o2
  clear HF
  go_wp2_with fail
  with_reducible refine (HC _).mono ?_
  rintro e w2' ⟨rfl, rfl⟩
  go_wp2_with fail
  with_reducible refine (HT _).mono ?_
  rintro e w2' ⟨rfl, rfl⟩
  go_wp2_with fail
  with_reducible refine (H1 _ (KeepC.of_below B2) _ pL).mono ?_
  rintro e w3 ⟨vA, rfl, o3, b3⟩
  have B3 := B2.trans (b3.mono B2.size)
  replace pL := pL.keep (KeepC.of_below b3)
  clear b3 B2
  have pA := o3.view
  clear o3
  go_wp2_with fail
  with_reducible refine (HC _).mono ?_
  rintro e w3' ⟨rfl, rfl⟩
  go_wp2_with fail
  with_reducible refine (HT _).mono ?_
  rintro e w3' ⟨rfl, rfl⟩
  go_wp2_with fail
  with_reducible refine (H2 _ _ pL).mono ?_
  rintro e w4 ⟨vB, rfl, pB, b4⟩
  have B4 := B3.trans (b4.mono B3.size)
  replace pL := pL.keep (KeepC.of_below b4)
  replace pA := pA.keep (KeepC.of_below b4)
  clear b4 B3
  go_wp2_with fail
  with_reducible refine (HC _).mono ?_
  rintro e w4' ⟨rfl, rfl⟩
  go_wp2_with fail
  with_reducible refine (H3 _ (KeepC.of_below B4) _ pL).mono ?_
  rintro e w5 ⟨rfl, b5⟩
  have B5 := B4.trans (b5.mono B4.size)
  replace pL := pL.keep (KeepC.of_below b5)
  replace pA := pA.keep (KeepC.of_below b5)
  replace pB := pB.keep (KeepC.of_below b5)
  clear b5 B4
  go_wp2_with fail
  with_reducible refine (HC _).mono ?_
  rintro e w5' ⟨rfl, rfl⟩
  go_wp2_with fail
  with_reducible refine (H4 _ _ pL).mono ?_
  rintro e w6 ⟨rfl, b6⟩
  have B6 := B5.trans (b6.mono B5.size)
  replace pL := pL.keep (KeepC.of_below b6)
  replace pA := pA.keep (KeepC.of_below b6)
  replace pB := pB.keep (KeepC.of_below b6)
  clear b6 B5
  go_wp2_with fail
  with_reducible refine (HC _).mono ?_
  rintro e w6' ⟨rfl, rfl⟩
  go_wp2_with fail
  with_reducible refine (H5 _ (KeepC.of_below B6) _ pL).mono ?_
  rintro e w7 ⟨vC, rfl, o7, b7⟩
  have B7 := B6.trans (b7.mono B6.size)
  replace pL := pL.keep (KeepC.of_below b7)
  replace pA := pA.keep (KeepC.of_below b7)
  replace pB := pB.keep (KeepC.of_below b7)
  clear b7 B6
  have pC := o7.view
  clear o7
  go_wp2_with fail
  with_reducible refine (HC _).mono ?_
  rintro e w7' ⟨rfl, rfl⟩
  go_wp2_with fail
  with_reducible refine (H6 _ _ pL).mono ?_
  rintro e w8 ⟨vD, rfl, pD, b8⟩
  have B8 := B7.trans (b8.mono B7.size)
  replace pL := pL.keep (KeepC.of_below b8)
  replace pA := pA.keep (KeepC.of_below b8)
  replace pB := pB.keep (KeepC.of_below b8)
  replace pC := pC.keep (KeepC.of_below b8)
  clear b8 B7
  clear H1 H2 H3 H4 H5 H6 HC HT fL
  go_wp2_with fail
  with_reducible refine (HS1 _ _ _ pA pB).mono ?_
  rintro e w9 ⟨rfl, b9⟩
  have B9 := B8.trans (b9.mono B8.size)
  replace pL := pL.keep (KeepC.of_below b9)
  replace pA := pA.keep (KeepC.of_below b9)
  replace pB := pB.keep (KeepC.of_below b9)
  replace pC := pC.keep (KeepC.of_below b9)
  replace pD := pD.keep (KeepC.of_below b9)
  clear b9 B8
  go_wp2_with fail
  with_reducible refine (HS2 _ _ _ pC pD).mono ?_
  rintro e w10 ⟨rfl, b10⟩
  have B10 := B9.trans (b10.mono B9.size)
  replace pL := pL.keep (KeepC.of_below b10)
  replace pA := pA.keep (KeepC.of_below b10)
  replace pB := pB.keep (KeepC.of_below b10)
  replace pC := pC.keep (KeepC.of_below b10)
  replace pD := pD.keep (KeepC.of_below b10)
  clear b10 B9
  go_wp2_with fail
  go_ret
  exact ⟨rfl, B10⟩
end Go.Proofs.YthclfkhakmcnbaaGreatDoor
