/- Joined: LawE -/
import Derived.Test.YtmjmmcdhpognaaaDoorJWK
/- The law WorldSets, walked. -/
namespace Go.Proofs.YtmjmmcdhpognaaaDoor
open Go.RowKit Go.Shelf
attribute [local go_sem] Oper.semAt_some
set_option maxRecDepth 100000 in
set_option maxHeartbeats 4000000 in
theorem sets_any (l : List PartD) (hl : l.length ≤ maxLen) (hi : ∀ x ∈ l, OkP x) (s : List ObjD) (hs : s.length ≤ maxLen) (his : ∀ x ∈ s, OkO x) (v sv : Value) (a : LblD) (ea : Addr) (w : World)
    (hge : w.cell? ⟨1, 0, none⟩ = some (errV8 ea)) (het : ErrT w) (hv : PartsV w v l) (hsv : ObjsV w sv s) :
    Calls Tryd.prog 3 #[v, lblV a, sv] w fun e w' => e = .returned (.bool true) ∧ Below w.heap.size w w' := by
  have HSh := fun W (h : KeepC w W) => shown_any ea W (h.2 _ _ _ hge) (h.2 _ _ _ het)
  have HF := fun W (h : KeepC w W) => few11_any l hl hi v W (hv.keep h)
  have HFs := fun W (h : KeepC w W) => few10_any s hs his sv W (hsv.keep h)
  have fL := fewW_fits l
  have fs := fewS_fits s
  generalize fewW l = L at *
  generalize fewS s = s' at *
  have fX := set_fits (a := a) fL fs
  have HX := fun W (h : KeepC w W) v1 v2 (h1 : PartsV W v1 L) (h2 : ObjsV W v2 s') => Set_any L (fL.w) s' fs v1 v2 a ea W (h.2 _ _ _ hge) (h.2 _ _ _ het) h1 h2
  have HY := fun W v1 v2 (h1 : PartsV W v1 L) (h2 : ObjsV W v2 s') => refSet_any L (fL.w) s' fs v1 v2 a W h1 h2
  have HS := fun W v1 v2 (h1 : PartsV W v1 (setW L a s')) (h2 : PartsV W v2 (setW L a s')) => refSame_any _ _ (fX.w) (fX.w) v1 v2 W h1 h2
  rw [sameW_refl] at HS
  generalize setW L a s' = X at *
  generalize setE L a s' = E at *
  obtain ⟨l1, S1, i1⟩ := a
  have B0 := (Below.refl _ w).alloc (Nat.le_refl _) (.cells #[.int .i64 l1, .int .u64 S1, .int .i64 i1] 25)
  have n1 := Blk.new w #[.int .i64 l1, .int .u64 S1, .int .i64 i1] 25
  clear hge het hv hsv hi his fX fL fs hl hs
  go_enter Tryd.func3, Tryd.ntmps3
  go_wp2_with fail
  generalize (w.alloc (.cells #[.int .i64 l1, .int .u64 S1, .int .i64 i1] 25)) = W0 at *
  with_reducible refine (HSh _ (KeepC.of_below B0)).mono ?_
  rintro e w1 ⟨rfl, b1⟩
  have C1 := b1
  have B1 := B0.trans (b1.mono B0.size)
  go_wp2_with fail
  with_reducible refine (HF _ (KeepC.of_below B1)).mono ?_
  rintro e w2 ⟨vL, rfl, oL, b2⟩
  have C2 := C1.trans (b2.mono C1.size)
  have B2 := B1.trans (b2.mono B1.size)
  go_wp2_with fail
  with_reducible refine (HFs _ (KeepC.of_below B2)).mono ?_
  rintro e w3 ⟨vs, rfl, os, b3⟩
  have C3 := C2.trans (b3.mono C2.size)
  have B3 := B2.trans (b3.mono B2.size)
  have pL := oL.view.keep (KeepC.of_below b3)
  have ps := os.view
  clear HSh HF HFs oL os b1 b2
  have m := n1.below C3 n1.lt
  have d0 := m.cell 0
  have d1 := m.cell 1
  have d2 := m.cell 2
  simp at d0 d1 d2
  go_wp2_with fail
  with_reducible refine (HX _ (KeepC.of_below B3) _ _ pL ps).mono ?_
  rintro e w4 ⟨v4, rfl, o4, b4⟩
  have C4 := C3.trans (b4.mono C3.size)
  have B4 := B3.trans (b4.mono B3.size)
  have k4 := KeepC.of_below b4
  replace pL := pL.keep k4
  replace ps := ps.keep k4
  have px := o4.view
  clear d0 d1 d2 m HX o4
  have m := n1.below C4 n1.lt
  have d0 := m.cell 0
  have d1 := m.cell 1
  have d2 := m.cell 2
  simp at d0 d1 d2
  go_wp2_with fail
  with_reducible refine (HY _ _ _ pL ps).mono ?_
  rintro e w5 ⟨v5, rfl, py, b5⟩
  have B5 := B4.trans (b5.mono B4.size)
  replace px := px.keep (KeepC.of_below b5)
  clear HY pL ps d0 d1 d2 m
  have heq : (E == E) = true := by simp
  go_wp2_with fail
  with_reducible refine (HS _ _ _ px py).mono ?_
  rintro e w6 ⟨rfl, b6⟩
  go_wp2_with fail
  go_ret
  exact ⟨rfl, B5.trans (b6.mono B5.size)⟩
end Go.Proofs.YtmjmmcdhpognaaaDoor
