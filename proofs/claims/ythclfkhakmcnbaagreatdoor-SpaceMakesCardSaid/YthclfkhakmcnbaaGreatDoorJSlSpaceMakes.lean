/- Joined: SlSpaceMakes -/
import Derived.Test.YthclfkhakmcnbaaGreatDoorJTP
import Derived.Test.YthclfkhakmcnbaaGreatDoorJTN
import Derived.Test.YthclfkhakmcnbaaGreatDoorJTS
import Derived.Test.YthclfkhakmcnbaaGreatDoorJTR
import Derived.Test.YthclfkhakmcnbaaGreatDoorJTQ
/- The law SpaceMakes, walked. -/
namespace Go.Proofs.YthclfkhakmcnbaaGreatDoor
open Go.RowKit Go.Shelf
attribute [local go_sem] Oper.semAt_some
set_option maxRecDepth 100000 in
set_option maxHeartbeats 8000000 in
theorem slMakes_any (l : List ObjD) (hl : l.length ≤ maxLen) (hi : ∀ x ∈ l, OkO x) (v : Value) (qu : Int) (n : List UInt8) (hn : n.length ≤ maxLen) (k m : Int) (ea : Addr) (w : World)
    (hge : w.cell? ⟨0, 0, none⟩ = some (errV8 ea)) (het : ErrT w) (hv : ObjsV w v l) :
    Calls Tryz.prog 4 #[v, .int .i64 qu, .string ⟨n.toArray⟩, .int .i64 k, .int .i64 m] w fun e w' => e = .returned (.bool true) ∧ Below w.heap.size w w' := by
  have HSh := fun W (h : KeepC w W) => shown10_any ea W (h.2 _ _ _ hge) (h.2 _ _ _ het)
  have HF := fun W (h : KeepC w W) => few10_any l hl hi v W (hv.keep h)
  have fL := fewS_fitsX l
  have hL22 := fewS_len l
  generalize fewS l = L at *
  have HC := fun W => cut10_any n hn W
  have hn5 : (n.take 50).length ≤ maxLen := by rw [List.length_take]; omega
  generalize n.take 50 = N at *
  have H1 := fun W (h : KeepC w W) v1 (h1 : ObjsV W v1 L) => Make_any L fL v1 qu N hn5 k m ea W (h.2 _ _ _ hge) (h.2 _ _ _ het) h1
  have H2 := fun W v1 (h1 : ObjsV W v1 L) => MakeR_any L fL v1 qu N hn5 k m W h1
  have H3 := fun W (h : KeepC w W) v1 (h1 : ObjsV W v1 L) => Drop_any L fL v1 N ea W (h.2 _ _ _ hge) (h.2 _ _ _ het) h1
  have H4 := fun W v1 (h1 : ObjsV W v1 L) => DropR_any L fL v1 N W h1
  have fA := make_fits fL qu N hn5 k m
  have fC := dropS_fits fL N
  generalize makeS L qu N k m = SA at *
  generalize makeE L qu N k m = EA at *
  generalize dropS L N = SC at *
  generalize dropE L N = EC at *
  have HS1 := fun W v1 v2 h1 h2 => sameR_any SA SA fA fA v1 v2 W h1 h2
  rw [sameS_refl] at HS1
  have HS2 := fun W v1 v2 h1 h2 => sameR_any SC SC fC fC v1 v2 W h1 h2
  rw [sameS_refl] at HS2
  obtain ⟨av, cv, rfl, -⟩ := hv.at
  clear hge het hv hi hl hn hn5 fA fC
  go_enter Tryz.func4, Tryz.ntmps4
  go_wp2_with fail
  with_reducible refine (HSh _ (KeepC.refl _)).mono ?_
  rintro e w1 ⟨rfl, b1⟩
  have B1 := b1
  clear HSh
  go_wp2_with fail
  with_reducible refine (HF _ (KeepC.of_below B1)).mono ?_
  rintro e w2 ⟨vL, rfl, o2, b2⟩
  have B2 := B1.trans (b2.mono B1.size)
  clear b2 B1
  have pL := o2.view
  clear o2
  clear HF
  go_wp2_with fail
  with_reducible refine (HC _).mono ?_
  rintro e w2' ⟨rfl, rfl⟩
  go_wp2_with fail
  with_reducible refine (H1 _ (KeepC.of_below B2) _ pL).mono ?_
  rintro e w3 ⟨vA, rfl, o3, b3⟩
  have B3 := B2.trans (b3.mono B2.size)
  replace pL := pL.keep (KeepC.of_below b3)
  clear b3 B2
  have pA := o3.view
  clear o3
  go_wp2_with fail
  with_reducible refine (HC _).mono ?_
  rintro e w3' ⟨rfl, rfl⟩
  go_wp2_with fail
  with_reducible refine (H2 _ _ pL).mono ?_
  rintro e w4 ⟨vB, rfl, pB, b4⟩
  have B4 := B3.trans (b4.mono B3.size)
  replace pL := pL.keep (KeepC.of_below b4)
  replace pA := pA.keep (KeepC.of_below b4)
  clear b4 B3
  go_wp2_with fail
  with_reducible refine (HC _).mono ?_
  rintro e w4' ⟨rfl, rfl⟩
  go_wp2_with fail
  with_reducible refine (H3 _ (KeepC.of_below B4) _ pL).mono ?_
  rintro e w5 ⟨vC, rfl, o5, b5⟩
  have B5 := B4.trans (b5.mono B4.size)
  replace pL := pL.keep (KeepC.of_below b5)
  replace pA := pA.keep (KeepC.of_below b5)
  replace pB := pB.keep (KeepC.of_below b5)
  clear b5 B4
  have pC := o5.view
  clear o5
  go_wp2_with fail
  with_reducible refine (HC _).mono ?_
  rintro e w5' ⟨rfl, rfl⟩
  go_wp2_with fail
  with_reducible refine (H4 _ _ pL).mono ?_
  rintro e w6 ⟨vD, rfl, pD, b6⟩
  have B6 := B5.trans (b6.mono B5.size)
  replace pL := pL.keep (KeepC.of_below b6)
  replace pA := pA.keep (KeepC.of_below b6)
  replace pB := pB.keep (KeepC.of_below b6)
  replace pC := pC.keep (KeepC.of_below b6)
  clear b6 B5
  clear H1 H2 H3 H4 HC fL
  go_wp2_with fail
  with_reducible refine (HS1 _ _ _ pA pB).mono ?_
  rintro e w7 ⟨rfl, b7⟩
  have B7 := B6.trans (b7.mono B6.size)
  replace pL := pL.keep (KeepC.of_below b7)
  replace pA := pA.keep (KeepC.of_below b7)
  replace pB := pB.keep (KeepC.of_below b7)
  replace pC := pC.keep (KeepC.of_below b7)
  replace pD := pD.keep (KeepC.of_below b7)
  clear b7 B6
  go_wp2_with fail
  with_reducible refine (HS2 _ _ _ pC pD).mono ?_
  rintro e w8 ⟨rfl, b8⟩
  have B8 := B7.trans (b8.mono B7.size)
  replace pL := pL.keep (KeepC.of_below b8)
  replace pA := pA.keep (KeepC.of_below b8)
  replace pB := pB.keep (KeepC.of_below b8)
  replace pC := pC.keep (KeepC.of_below b8)
  replace pD := pD.keep (KeepC.of_below b8)
  clear b8 B7
  go_wp2_with fail
  go_ret
  exact ⟨rfl, B8⟩
end Go.Proofs.YthclfkhakmcnbaaGreatDoor
