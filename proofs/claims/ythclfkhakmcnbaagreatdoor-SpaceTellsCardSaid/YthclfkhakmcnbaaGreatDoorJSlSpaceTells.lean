/- Joined: SlSpaceTells -/
import Derived.Test.YthclfkhakmcnbaaGreatDoorJTP
import Derived.Test.YthclfkhakmcnbaaGreatDoorJTN
import Derived.Test.YthclfkhakmcnbaaGreatDoorJTQ
import Derived.Test.YthclfkhakmcnbaaGreatDoorJTR
/- The law SpaceTells, walked. -/
namespace Go.Proofs.YthclfkhakmcnbaaGreatDoor
open Go.RowKit Go.Shelf
attribute [local go_sem] Oper.semAt_some
theorem names_fits {l : List ObjD} (h : FitsS l) : FitsL (namesL l) := ⟨by simpa [namesL] using h.1, fun s hs => by
  obtain ⟨x, hx, rfl⟩ := List.mem_map.1 hs
  exact (h.2 x hx).1⟩
set_option maxRecDepth 100000 in
set_option maxHeartbeats 8000000 in
theorem slTells_any (l : List ObjD) (hl : l.length ≤ maxLen) (hi : ∀ x ∈ l, OkO x) (v : Value) (n : List UInt8) (hn : n.length ≤ maxLen) (l2 : List ObjD) (hl2 : l2.length ≤ maxLen) (hi2 : ∀ x ∈ l2, OkO x) (v2 : Value) (ea : Addr) (w : World)
    (hge : w.cell? ⟨0, 0, none⟩ = some (errV8 ea)) (het : ErrT w) (hv : ObjsV w v l) (hv2 : ObjsV w v2 l2) :
    Calls Tryz.prog 5 #[v, .string ⟨n.toArray⟩, v2] w fun e w' => e = .returned (.bool true) ∧ Below w.heap.size w w' := by
  have HSh := fun W (h : KeepC w W) => shown10_any ea W (h.2 _ _ _ hge) (h.2 _ _ _ het)
  have HF := fun W (h : KeepC w W) => few10_any l hl hi v W (hv.keep h)
  have fL := fewS_fitsX l
  have hL22 := fewS_len l
  generalize fewS l = L at *
  have HG := fun W (h : KeepC w W) => few10_any l2 hl2 hi2 v2 W (hv2.keep h)
  have fM := fewS_fitsX l2
  generalize fewS l2 = M at *
  have HC := fun W => cut10_any n hn W
  have hn5 : (n.take 50).length ≤ maxLen := by rw [List.length_take]; omega
  generalize n.take 50 = N at *
  have HN1 := fun W => isName_any N hn5 W
  have HN2 := fun W => isNameR_below N hn5 W
  have HR1 := fun W (h : KeepC w W) v1 (h1 : ObjsV W v1 L) => spaceRight_any L fL v1 ea W (h.2 _ _ _ hge) h1
  have HR2 := fun W v1 (h1 : ObjsV W v1 L) => refRight_any L fL v1 W h1
  have HC1 := fun W (h : KeepC w W) v1 (h1 : ObjsV W v1 L) => Cost_any L fL v1 ea W (h.2 _ _ _ hge) h1
  have HC2 := fun W v1 (h1 : ObjsV W v1 L) => refCost_any L fL v1 W h1
  have HFi1 := fun W v1 (h1 : ObjsV W v1 L) => Find_any L fL.1 v1 N W h1
  have HFi2 := fun W v1 (h1 : ObjsV W v1 L) => FindR_any L fL.1 v1 N W h1
  have HNm1 := fun W v1 (h1 : ObjsV W v1 L) => Names_any L fL.1 v1 W h1
  have HNm2 := fun W v1 (h1 : ObjsV W v1 L) => NamesR_any L fL.1 v1 W h1
  have fN := names_fits fL
  have HTx := fun W v1 v2 h1 h2 => (texts_any (namesL L) (namesL L) fN fN v1 v2 W h1 h2).mono (fun e w' (h : _ ∧ ∃ q, w' = W.drewN q) => (⟨h.1, by obtain ⟨q, hq⟩ := h.2; rw [hq]; exact below_drewN (Below.refl _ _) _⟩ : e = .returned (.bool (namesL L == namesL L)) ∧ Below W.heap.size W w'))
  rw [beq_self_eq_true] at HTx
  have HS1 := fun W v1 v2 h1 h2 => spaceSame_any L M fL fM v1 v2 W h1 h2
  have HS2 := fun W v1 v2 h1 h2 => sameR_any L M fL fM v1 v2 W h1 h2
  have HS3 := fun W v1 v2 h1 h2 => spaceSame_any L L fL fL v1 v2 W h1 h2
  rw [sameS_refl] at HS3
  generalize sameS L M = sm at *
  generalize spaceB L = rb at *
  generalize costS L = cs at *
  generalize findS L N = fs at *
  generalize nameB N = nb at *
  generalize namesL L = NL at *
  obtain ⟨av, cv, rfl, -⟩ := hv.at
  obtain ⟨av2, cv2, rfl, -⟩ := hv2.at
  clear hge het hv hv2 hi hi2 hl hl2 hn hn5 fL fM fN
  go_enter Tryz.func5, Tryz.ntmps5
  go_wp2_with fail
  with_reducible refine (HSh _ (KeepC.refl _)).mono ?_
  rintro e w1 ⟨rfl, b1⟩
  have B1 := b1
  clear HSh
  go_wp2_with fail
  with_reducible refine (HF _ (KeepC.of_below B1)).mono ?_
  rintro e w2 ⟨vL, rfl, o2, b2⟩
  have B2 := B1.trans (b2.mono B1.size)
  clear b2 B1
  have pL := o2.view
  clear o2
  clear HF
  go_wp2_with fail
  with_reducible refine (HG _ (KeepC.of_below B2)).mono ?_
  rintro e w3 ⟨vM, rfl, o3, b3⟩
  have B3 := B2.trans (b3.mono B2.size)
  replace pL := pL.keep (KeepC.of_below b3)
  clear b3 B2
  have pM := o3.view
  clear o3
  clear HG
  go_wp2_with fail
  with_reducible refine (HC _).mono ?_
  rintro e w3' ⟨rfl, rfl⟩
  go_wp2_with fail
  with_reducible refine (HN1 _).mono ?_
  rintro e w4 ⟨rfl, b4⟩
  have B4 := B3.trans (b4.mono B3.size)
  replace pL := pL.keep (KeepC.of_below b4)
  replace pM := pM.keep (KeepC.of_below b4)
  clear b4 B3
  go_wp2_with fail
  with_reducible refine (HC _).mono ?_
  rintro e w4' ⟨rfl, rfl⟩
  go_wp2_with fail
  with_reducible refine (HN2 _).mono ?_
  rintro e w5 ⟨rfl, b5⟩
  have B5 := B4.trans (b5.mono B4.size)
  replace pL := pL.keep (KeepC.of_below b5)
  replace pM := pM.keep (KeepC.of_below b5)
  clear b5 B4
  clear HN1 HN2
  go_wp2_with fail
  with_reducible refine (HR1 _ (KeepC.of_below B5) _ pL).mono ?_
  rintro e w6 ⟨rfl, b6⟩
  have B6 := B5.trans (b6.mono B5.size)
  replace pL := pL.keep (KeepC.of_below b6)
  replace pM := pM.keep (KeepC.of_below b6)
  clear b6 B5
  go_wp2_with fail
  with_reducible refine (HR2 _ _ pL).mono ?_
  rintro e w7 ⟨rfl, b7⟩
  have B7 := B6.trans (b7.mono B6.size)
  replace pL := pL.keep (KeepC.of_below b7)
  replace pM := pM.keep (KeepC.of_below b7)
  clear b7 B6
  clear HR1 HR2
  go_wp2_with fail
  with_reducible refine (HC1 _ (KeepC.of_below B7) _ pL).mono ?_
  rintro e w8 ⟨rfl, b8⟩
  have B8 := B7.trans (b8.mono B7.size)
  replace pL := pL.keep (KeepC.of_below b8)
  replace pM := pM.keep (KeepC.of_below b8)
  clear b8 B7
  go_wp2_with fail
  with_reducible refine (HC2 _ _ pL).mono ?_
  rintro e w9 ⟨rfl, b9⟩
  have B9 := B8.trans (b9.mono B8.size)
  replace pL := pL.keep (KeepC.of_below b9)
  replace pM := pM.keep (KeepC.of_below b9)
  clear b9 B8
  clear HC1 HC2
  go_wp2_with fail
  with_reducible refine (HC _).mono ?_
  rintro e w9' ⟨rfl, rfl⟩
  go_wp2_with fail
  with_reducible refine (HFi1 _ _ pL).mono ?_
  rintro e w10 ⟨rfl, b10⟩
  have B10 := B9.trans (b10.mono B9.size)
  replace pL := pL.keep (KeepC.of_below b10)
  replace pM := pM.keep (KeepC.of_below b10)
  clear b10 B9
  go_wp2_with fail
  with_reducible refine (HC _).mono ?_
  rintro e w10' ⟨rfl, rfl⟩
  go_wp2_with fail
  with_reducible refine (HFi2 _ _ pL).mono ?_
  rintro e w10' ⟨rfl, rfl⟩
  clear HFi1 HFi2 HC
  go_wp2_with fail
  with_reducible refine (HNm1 _ _ pL).mono ?_
  rintro e w11 ⟨vN, rfl, o11, b11⟩
  have B11 := B10.trans (b11.mono B10.size)
  replace pL := pL.keep (KeepC.of_below b11)
  replace pM := pM.keep (KeepC.of_below b11)
  clear b11 B10
  have pN := o11.view
  clear o11
  go_wp2_with fail
  with_reducible refine (HNm2 _ _ pL).mono ?_
  rintro e w12 ⟨vO, rfl, o12, b12⟩
  have B12 := B11.trans (b12.mono B11.size)
  replace pL := pL.keep (KeepC.of_below b12)
  replace pM := pM.keep (KeepC.of_below b12)
  replace pN := pN.keep (KeepC.of_below b12)
  clear b12 B11
  have pO := o12.view
  clear o12
  go_wp2_with fail
  with_reducible refine (HTx _ _ _ pN pO).mono ?_
  rintro e w13 ⟨rfl, b13⟩
  have B13 := B12.trans (b13.mono B12.size)
  replace pL := pL.keep (KeepC.of_below b13)
  replace pM := pM.keep (KeepC.of_below b13)
  replace pN := pN.keep (KeepC.of_below b13)
  replace pO := pO.keep (KeepC.of_below b13)
  clear b13 B12
  clear HNm1 HNm2 HTx
  go_wp2_with fail
  with_reducible refine (HS1 _ _ _ pL pM).mono ?_
  rintro e w14 ⟨rfl, b14⟩
  have B14 := B13.trans (b14.mono B13.size)
  replace pL := pL.keep (KeepC.of_below b14)
  replace pM := pM.keep (KeepC.of_below b14)
  clear b14 B13
  go_wp2_with fail
  with_reducible refine (HS2 _ _ _ pL pM).mono ?_
  rintro e w15 ⟨rfl, b15⟩
  have B15 := B14.trans (b15.mono B14.size)
  replace pL := pL.keep (KeepC.of_below b15)
  replace pM := pM.keep (KeepC.of_below b15)
  clear b15 B14
  go_wp2_with fail
  with_reducible refine (HS3 _ _ _ pL pL).mono ?_
  rintro e w16 ⟨rfl, b16⟩
  have B16 := B15.trans (b16.mono B15.size)
  replace pL := pL.keep (KeepC.of_below b16)
  replace pM := pM.keep (KeepC.of_below b16)
  clear b16 B15
  go_wp2_with fail
  go_ret
  exact ⟨rfl, B16⟩
end Go.Proofs.YthclfkhakmcnbaaGreatDoor
