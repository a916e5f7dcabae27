/- Joined: LawB -/
import Derived.Test.YtmjmmcdhpognaaaDoorJWH
/- The law WorldTurns, walked. -/
namespace Go.Proofs.YtmjmmcdhpognaaaDoor
open Go.RowKit Go.Shelf
attribute [local go_sem] Oper.semAt_some
set_option maxRecDepth 100000 in
set_option maxHeartbeats 4000000 in
theorem turns_any (l : List PartD) (hl : l.length ≤ maxLen) (hi : ∀ x ∈ l, OkP x) (s m : List ObjD) (hs : s.length ≤ maxLen) (his : ∀ x ∈ s, OkO x) (hm : m.length ≤ maxLen) (him : ∀ x ∈ m, OkO x) (v sv mv : Value) (a b : LblD) (ea : Addr) (w : World)
    (hge : w.cell? ⟨1, 0, none⟩ = some (errV8 ea)) (het : ErrT w) (hv : PartsV w v l) (hsv : ObjsV w sv s) (hmv : ObjsV w mv m) :
    Calls Tryd.prog 6 #[v, lblV a, lblV b, sv, mv] w fun e w' => e = .returned (.bool true) ∧ Below w.heap.size w w' := by
  have HSh := fun W (h : KeepC w W) => shown_any ea W (h.2 _ _ _ hge) (h.2 _ _ _ het)
  have HF := fun W (h : KeepC w W) => few11_any l hl hi v W (hv.keep h)
  have HFs := fun W (h : KeepC w W) => few10_any s hs his sv W (hsv.keep h)
  have HFm := fun W (h : KeepC w W) => few10_any m hm him mv W (hmv.keep h)
  have fL := fewW_fits l
  have fs := fewS_fits s
  have fm := fewS_fits m
  generalize fewW l = L at *
  generalize fewS s = s' at *
  generalize fewS m = m' at *
  have fX := set_fits (a := a) fL fs
  have fY := set_fits (a := b) fX fm
  have fU := set_fits (a := b) fL fm
  have fV := set_fits (a := a) fU fs
  have HX := fun W (h : KeepC w W) v1 v2 (h1 : PartsV W v1 L) (h2 : ObjsV W v2 s') => Set_any L (fL.w) s' fs v1 v2 a ea W (h.2 _ _ _ hge) (h.2 _ _ _ het) h1 h2
  have HY := fun W (h : KeepC w W) v1 v2 (h1 : PartsV W v1 (setW L a s')) (h2 : ObjsV W v2 m') => Set_any (setW L a s') (fX.w) m' fm v1 v2 b ea W (h.2 _ _ _ hge) (h.2 _ _ _ het) h1 h2
  have HU := fun W (h : KeepC w W) v1 v2 (h1 : PartsV W v1 L) (h2 : ObjsV W v2 m') => Set_any L (fL.w) m' fm v1 v2 b ea W (h.2 _ _ _ hge) (h.2 _ _ _ het) h1 h2
  have HV := fun W (h : KeepC w W) v1 v2 (h1 : PartsV W v1 (setW L b m')) (h2 : ObjsV W v2 s') => Set_any (setW L b m') (fU.w) s' fs v1 v2 a ea W (h.2 _ _ _ hge) (h.2 _ _ _ het) h1 h2
  have HSm := fun W v1 v2 (h1 : PartsV W v1 (setW (setW L a s') b m')) (h2 : PartsV W v2 (setW (setW L b m') a s')) => worldSame_any _ _ (fY.w) (fV.w) v1 v2 W h1 h2
  have P1 := turns_no (w := L) (a := a) (b := b) (l := s') (m := m')
  have P2 := turns_ok (w := L) (a := a) (b := b) (l := s') (m := m')
  generalize setW (setW L a s') b m' = Y at *
  generalize setW (setW L b m') a s' = V at *
  generalize setE (setW L a s') b m' = F at *
  generalize setE (setW L b m') a s' = H at *
  generalize setW L a s' = X at *
  generalize setW L b m' = U at *
  generalize setE L a s' = E at *
  generalize setE L b m' = G at *
  obtain ⟨l1, S1, i1⟩ := a
  obtain ⟨l2, S2, i2⟩ := b
  have B0 := ((Below.refl _ w).alloc (Nat.le_refl _) (.cells #[.int .i64 l1, .int .u64 S1, .int .i64 i1] 25)).alloc (by simp) (.cells #[.int .i64 l2, .int .u64 S2, .int .i64 i2] 25)
  have n1 := (Blk.new w #[.int .i64 l1, .int .u64 S1, .int .i64 i1] 25).alloc (.cells #[.int .i64 l2, .int .u64 S2, .int .i64 i2] 25)
  have n2 := Blk.new (w.alloc (.cells #[.int .i64 l1, .int .u64 S1, .int .i64 i1] 25)) #[.int .i64 l2, .int .u64 S2, .int .i64 i2] 25
  rw [World.size_alloc] at n2
  have Q1 := Lib.hid P1
  have Q2 := Lib.hid P2
  clear P1 P2 hge het hv hsv hmv hi his him fX fY fU fV fL fs fm hl hs hm
  go_enter Tryd.func6, Tryd.ntmps6
  go_wp2_with fail
  generalize (w.alloc (.cells #[.int .i64 l1, .int .u64 S1, .int .i64 i1] 25)).alloc (.cells #[.int .i64 l2, .int .u64 S2, .int .i64 i2] 25) = W0 at *
  have NN : Hid (∀ W, Below W0.heap.size W0 W → Blk W w.heap.size #[.int .i64 l1, .int .u64 S1, .int .i64 i1] 25 ∧ Blk W (w.heap.size + 1) #[.int .i64 l2, .int .u64 S2, .int .i64 i2] 25) := by
    show ∀ W, _
    intro W h
    exact ⟨n1.below h n1.lt, n2.below h n2.lt⟩
  clear n1 n2
  with_reducible refine (HSh _ (KeepC.of_below B0)).mono ?_
  rintro e w1 ⟨rfl, b1⟩
  have C1 := b1
  have B1 := B0.trans (b1.mono B0.size)
  go_wp2_with fail
  with_reducible refine (HF _ (KeepC.of_below B1)).mono ?_
  rintro e w2 ⟨vL, rfl, oL, b2⟩
  have C2 := C1.trans (b2.mono C1.size)
  have B2 := B1.trans (b2.mono B1.size)
  go_wp2_with fail
  with_reducible refine (HFs _ (KeepC.of_below B2)).mono ?_
  rintro e w3 ⟨vs, rfl, os, b3⟩
  have C3 := C2.trans (b3.mono C2.size)
  have B3 := B2.trans (b3.mono B2.size)
  go_wp2_with fail
  with_reducible refine (HFm _ (KeepC.of_below B3)).mono ?_
  rintro e w4 ⟨vm, rfl, om, b4⟩
  have C4 := C3.trans (b4.mono C3.size)
  have B4 := B3.trans (b4.mono B3.size)
  have pL := (oL.view.keep (KeepC.of_below b3)).keep (KeepC.of_below b4)
  have ps := os.view.keep (KeepC.of_below b4)
  have pm := om.view
  clear HSh HF HFs HFm oL os om b1 b2 b3
  have NC := Lib.hid (NN.out _ C4)
  have d0 := NC.out.1.cell 0
  have d1 := NC.out.1.cell 1
  have d2 := NC.out.1.cell 2
  simp at d0 d1 d2
  go_wp2_with fail
  with_reducible refine (HX _ (KeepC.of_below B4) _ _ pL ps).mono ?_
  rintro e w5 ⟨v5, rfl, o5, b5⟩
  have C5 := C4.trans (b5.mono C4.size)
  have B5 := B4.trans (b5.mono B4.size)
  have k5 := KeepC.of_below b5
  replace pL := pL.keep k5
  replace ps := ps.keep k5
  replace pm := pm.keep k5
  have px := o5.view
  have NC5 := Lib.hid (NN.out _ C5)
  clear d0 d1 d2 NC HX o5
  have d0 := NC5.out.2.cell 0
  have d1 := NC5.out.2.cell 1
  have d2 := NC5.out.2.cell 2
  simp at d0 d1 d2
  go_wp2_with fail
  with_reducible refine (HY _ (KeepC.of_below B5) _ _ px pm).mono ?_
  rintro e w6 ⟨v6, rfl, o6, b6⟩
  have C6 := C5.trans (b6.mono C5.size)
  have B6 := B5.trans (b6.mono B5.size)
  have k6 := KeepC.of_below b6
  replace pL := pL.keep k6
  replace ps := ps.keep k6
  replace pm := pm.keep k6
  have py := o6.view
  have NC6 := Lib.hid (NN.out _ C6)
  clear d0 d1 d2 NC5 HY o6 px
  have d0 := NC6.out.2.cell 0
  have d1 := NC6.out.2.cell 1
  have d2 := NC6.out.2.cell 2
  simp at d0 d1 d2
  go_wp2_with fail
  with_reducible refine (HU _ (KeepC.of_below B6) _ _ pL pm).mono ?_
  rintro e w7 ⟨v7, rfl, o7, b7⟩
  have C7 := C6.trans (b7.mono C6.size)
  have B7 := B6.trans (b7.mono B6.size)
  have k7 := KeepC.of_below b7
  replace ps := ps.keep k7
  replace py := py.keep k7
  have pu := o7.view
  have NC7 := Lib.hid (NN.out _ C7)
  clear d0 d1 d2 NC6 HU o7 pL pm
  have d0 := NC7.out.1.cell 0
  have d1 := NC7.out.1.cell 1
  have d2 := NC7.out.1.cell 2
  simp at d0 d1 d2
  go_wp2_with fail
  with_reducible refine (HV _ (KeepC.of_below B7) _ _ pu ps).mono ?_
  rintro e w8 ⟨v8, rfl, o8, b8⟩
  have C8 := C7.trans (b8.mono C7.size)
  have B8 := B7.trans (b8.mono B7.size)
  have k8 := KeepC.of_below b8
  replace py := py.keep k8
  have pv := o8.view
  have NC8 := Lib.hid (NN.out _ C8)
  clear d0 d1 d2 NC7 HV o8 pu ps
  by_cases hE : E = 0 ∧ F = 0
  · obtain ⟨rfl, rfl⟩ := hE
    obtain ⟨hG, hH, hne⟩ := Q2.out rfl rfl
    subst hG hH
    have d0 := NC8.out.1.cell 0
    have d1 := NC8.out.1.cell 1
    have d2 := NC8.out.1.cell 2
    have e0 := NC8.out.2.cell 0
    have e1 := NC8.out.2.cell 1
    have e2 := NC8.out.2.cell 2
    simp at d0 d1 d2 e0 e1 e2
    have HSx := HSm w8 _ _ py pv
    clear HSm Q1 Q2
    rcases lbl_cases l1 S1 i1 l2 S2 i2 with ⟨-, rfl, rfl, rfl⟩ | ⟨hd, hz | ⟨hz1, hz⟩ | ⟨hz1, hz2, hz⟩⟩
    · clear hne HSx
      go_wp2_with fail
      go_ret
      exact ⟨rfl, B8⟩
    all_goals (rw [hne hd] at HSx)
    all_goals (clear hne hd)
    all_goals go_wp2_with fail
    all_goals (with_reducible refine HSx.mono ?_)
    all_goals (rintro e w9 ⟨rfl, b9⟩)
    all_goals go_wp2_with fail
    all_goals go_ret
    all_goals exact ⟨rfl, B8.trans (b9.mono B8.size)⟩
  · have hno := Q1.out (by omega)
    clear Q1 Q2 HSm
    by_cases hE0 : E = 0
    · have hF : (F != 0) = true := by simp; omega
      subst hE0
      by_cases hG : G = 0
      · have hH : (H != 0) = true := by simp; omega
        subst hG
        clear hno hE
        go_wp2_with fail
        go_ret
        exact ⟨rfl, B8⟩
      · have hG' : (G != 0) = true := by simpa using hG
        clear hno hE
        go_wp2_with fail
        go_ret
        exact ⟨rfl, B8⟩
    · have hE1 : (E != 0) = true := by simpa using hE0
      by_cases hG : G = 0
      · have hH : (H != 0) = true := by simp; omega
        subst hG
        clear hno hE
        go_wp2_with fail
        go_ret
        exact ⟨rfl, B8⟩
      · have hG' : (G != 0) = true := by simpa using hG
        clear hno hE
        go_wp2_with fail
        go_ret
        exact ⟨rfl, B8⟩
end Go.Proofs.YtmjmmcdhpognaaaDoor
