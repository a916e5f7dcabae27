/- Joined: SlSpaceRings -/
import Derived.Test.YthclfkhakmcnbaaGreatDoorJTP
import Derived.Test.YthclfkhakmcnbaaGreatDoorJTN
import Derived.Test.YthclfkhakmcnbaaGreatDoorJTW
import Derived.Test.YthclfkhakmcnbaaGreatDoorJTY
import Derived.Test.YthclfkhakmcnbaaGreatDoorJTR
/- The law SpaceRings, walked. -/
namespace Go.Proofs.YthclfkhakmcnbaaGreatDoor
open Go.RowKit Go.Shelf
attribute [local go_sem] Oper.semAt_some
set_option maxRecDepth 100000 in
set_option maxHeartbeats 8000000 in
theorem slRings_any (l : List ObjD) (hl : l.length ≤ maxLen) (hi : ∀ x ∈ l, OkO x) (v : Value) (n t : List UInt8) (hn : n.length ≤ maxLen) (ht : t.length ≤ maxLen) (a f em : Addr) (ea : Addr) (w : World)
    (hge : w.cell? ⟨0, 0, none⟩ = some (errV8 ea)) (het : ErrT w) (hr : RErr w a f em) (hv : ObjsV w v l) :
    Calls Tryz.prog 8 #[v, .string ⟨n.toArray⟩, .string ⟨t.toArray⟩] w fun e w' => e = .returned (.bool true) ∧ Below w.heap.size w w' := by
  have HSh := fun W (h : KeepC w W) => shown10_any ea W (h.2 _ _ _ hge) (h.2 _ _ _ het)
  have HF := fun W (h : KeepC w W) => few10_any l hl hi v W (hv.keep h)
  have fL := fewS_fitsX l
  have hL22 := fewS_len l
  generalize fewS l = L at *
  have HC := fun W => cut10_any n hn W
  have HT := fun W => long10_any t ht W
  have hn5 : (n.take 50).length ≤ maxLen := by rw [List.length_take]; omega
  have ht5 : (t.take 1010).length ≤ 1000000 := by rw [List.length_take]; omega
  generalize n.take 50 = N at *
  generalize t.take 1010 = T at *
  have HPu := fun W (h : Below w.heap.size w W) v1 (h1 : ObjsV W v1 L) => Put_any L fL v1 N T ht5 a f em W (hr.below h) ((KeepC.of_below h).2 _ _ _ het) h1
  have HPr := fun W v1 (h1 : ObjsV W v1 L) => PutR_any L fL v1 N T ht5 W h1
  have HTk := fun W (h : Below w.heap.size w W) v1 (h1 : ObjsV W v1 L) => Take_any L fL v1 N a f em W (hr.below h) ((KeepC.of_below h).2 _ _ _ het) h1
  have HTr := fun W v1 (h1 : ObjsV W v1 L) => TakeR_any L fL v1 N W h1
  have fA := put_fits fL N T
  have fC := take_fits fL N
  unfold takeP at HTk HTr
  generalize putS L N T = SA at *
  generalize putE L N T = EA at *
  generalize takeS L N = SC at *
  generalize takeE L N = EC at *
  generalize takeT L N = TC at *
  have HS1 := fun W v1 v2 h1 h2 => sameR_any SA SA fA fA v1 v2 W h1 h2
  rw [sameS_refl] at HS1
  have HS2 := fun W v1 v2 h1 h2 => sameR_any SC SC fC fC v1 v2 W h1 h2
  rw [sameS_refl] at HS2
  obtain ⟨av, cv, rfl, -⟩ := hv.at
  clear hge het hr hv hi hl hn ht hn5 ht5 fA fC
  go_enter Tryz.func8, Tryz.ntmps8
  go_wp2_with fail
  with_reducible refine (HSh _ (KeepC.refl _)).mono ?_
  rintro e w1 ⟨rfl, b1⟩
  have B1 := b1
  clear HSh
  go_wp2_with fail
  with_reducible refine (HF _ (KeepC.of_below B1)).mono ?_
  rintro e w2 ⟨vL, rfl, o2, b2⟩
  have B2 := B1.trans (b2.mono B1.size)
  clear b2 B1
  have pL := o2.view
  clear o2
  clear HF
  go_wp2_with fail
  with_reducible refine (HC _).mono ?_
  rintro e w2' ⟨rfl, rfl⟩
  go_wp2_with fail
  with_reducible refine (HT _).mono ?_
  rintro e w2' ⟨rfl, rfl⟩
  go_wp2_with fail
  with_reducible refine (HPu _ B2 _ pL).mono ?_
  rintro e w3 ⟨vA, rfl, pA, b3⟩
  have B3 := B2.trans (b3.mono B2.size)
  replace pL := pL.keep (KeepC.of_below b3)
  clear b3 B2
  go_wp2_with fail
  with_reducible refine (HC _).mono ?_
  rintro e w3' ⟨rfl, rfl⟩
  go_wp2_with fail
  with_reducible refine (HT _).mono ?_
  rintro e w3' ⟨rfl, rfl⟩
  go_wp2_with fail
  with_reducible refine (HPr _ _ pL).mono ?_
  rintro e w4 ⟨vB, rfl, pB, b4⟩
  have B4 := B3.trans (b4.mono B3.size)
  replace pL := pL.keep (KeepC.of_below b4)
  replace pA := pA.keep (KeepC.of_below b4)
  clear b4 B3
  go_wp2_with fail
  with_reducible refine (HC _).mono ?_
  rintro e w4' ⟨rfl, rfl⟩
  go_wp2_with fail
  with_reducible refine (HTk _ B4 _ pL).mono ?_
  rintro e w5 ⟨vC, rfl, pC, b5⟩
  have B5 := B4.trans (b5.mono B4.size)
  replace pL := pL.keep (KeepC.of_below b5)
  replace pA := pA.keep (KeepC.of_below b5)
  replace pB := pB.keep (KeepC.of_below b5)
  clear b5 B4
  go_wp2_with fail
  with_reducible refine (HC _).mono ?_
  rintro e w5' ⟨rfl, rfl⟩
  go_wp2_with fail
  with_reducible refine (HTr _ _ pL).mono ?_
  rintro e w6 ⟨vD, rfl, pD, b6⟩
  have B6 := B5.trans (b6.mono B5.size)
  replace pL := pL.keep (KeepC.of_below b6)
  replace pA := pA.keep (KeepC.of_below b6)
  replace pB := pB.keep (KeepC.of_below b6)
  replace pC := pC.keep (KeepC.of_below b6)
  clear b6 B5
  clear HPu HPr HTk HTr HC HT fL
  go_wp2_with fail
  with_reducible refine (HS1 _ _ _ pA pB).mono ?_
  rintro e w7 ⟨rfl, b7⟩
  have B7 := B6.trans (b7.mono B6.size)
  replace pL := pL.keep (KeepC.of_below b7)
  replace pA := pA.keep (KeepC.of_below b7)
  replace pB := pB.keep (KeepC.of_below b7)
  replace pC := pC.keep (KeepC.of_below b7)
  replace pD := pD.keep (KeepC.of_below b7)
  clear b7 B6
  go_wp2_with fail
  with_reducible refine (HS2 _ _ _ pC pD).mono ?_
  rintro e w8 ⟨rfl, b8⟩
  have B8 := B7.trans (b8.mono B7.size)
  replace pL := pL.keep (KeepC.of_below b8)
  replace pA := pA.keep (KeepC.of_below b8)
  replace pB := pB.keep (KeepC.of_below b8)
  replace pC := pC.keep (KeepC.of_below b8)
  replace pD := pD.keep (KeepC.of_below b8)
  clear b8 B7
  go_wp2_with fail
  go_ret
  exact ⟨rfl, B8⟩
end Go.Proofs.YthclfkhakmcnbaaGreatDoor
