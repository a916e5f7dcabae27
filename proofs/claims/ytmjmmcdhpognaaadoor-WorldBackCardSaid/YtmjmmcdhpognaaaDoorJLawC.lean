/- Joined: LawC -/
import Derived.Test.YtmjmmcdhpognaaaDoorJWH
/- The law WorldBack, walked. -/
namespace Go.Proofs.YtmjmmcdhpognaaaDoor
open Go.RowKit Go.Shelf
attribute [local go_sem] Oper.semAt_some
theorem back_ok {L : List PartD} {a b : LblD} {s : List ObjD} (h : setE L a s = 0) : setE (setW L a s) a (getW L a) = 0 ∧ sameW (setW (setW L a s) a (getW L a)) L = true ∧ worldB (setW L a s) = true ∧ sameS (getW (setW L a s) a) s = true ∧ (a ≠ b → sameS (getW (setW L a s) b) (getW L b) = true) := by
  obtain ⟨h1, h2, h3⟩ := setE_zero.1 h
  have hp := put_world h1 h2 h3
  rw [setW_ok h]
  have he : setE (putW L a s) a (getW L a) = 0 := setE_zero.2 ⟨hp, get_space a, h3⟩
  refine ⟨he, ?_, hp, ?_, fun hne => ?_⟩
  · rw [setW_ok he, put_back h1]; exact sameW_refl _
  · rw [get_put hp (worldB_srt h1)]; exact sameS_refl _
  · rw [get_put_other hp h1 hne]; exact sameS_refl _
set_option maxRecDepth 100000 in
set_option maxHeartbeats 4000000 in
theorem back_any (l : List PartD) (hl : l.length ≤ maxLen) (hi : ∀ x ∈ l, OkP x) (s : List ObjD) (hs : s.length ≤ maxLen) (his : ∀ x ∈ s, OkO x) (v sv : Value) (a b : LblD) (ea : Addr) (w : World)
    (hge : w.cell? ⟨1, 0, none⟩ = some (errV8 ea)) (het : ErrT w) (hv : PartsV w v l) (hsv : ObjsV w sv s) :
    Calls Tryd.prog 5 #[v, lblV a, lblV b, sv] w fun e w' => e = .returned (.bool true) ∧ Below w.heap.size w w' := by
  have HSh := fun W (h : KeepC w W) => shown_any ea W (h.2 _ _ _ hge) (h.2 _ _ _ het)
  have HF := fun W (h : KeepC w W) => few11_any l hl hi v W (hv.keep h)
  have HFs := fun W (h : KeepC w W) => few10_any s hs his sv W (hsv.keep h)
  have fL := fewW_fits l
  have fs := fewS_fits s
  generalize fewW l = L at *
  generalize fewS s = s' at *
  have fW := get_fits a fL
  have fX := set_fits (a := a) fL fs
  have fY := set_fits (a := a) fX fW
  have fGa := get_fits a fX
  have fGb := get_fits b fX
  have fLb := get_fits b fL
  have HG := fun W (h : KeepC w W) v1 (h1 : PartsV W v1 L) => Get_any L (fL.w) v1 a ea W (h.2 _ _ _ hge) h1
  have HX := fun W (h : KeepC w W) v1 v2 (h1 : PartsV W v1 L) (h2 : ObjsV W v2 s') => Set_any L (fL.w) s' fs v1 v2 a ea W (h.2 _ _ _ hge) (h.2 _ _ _ het) h1 h2
  have HY := fun W (h : KeepC w W) v1 v2 (h1 : PartsV W v1 (setW L a s')) (h2 : ObjsV W v2 (getW L a)) => Set_any (setW L a s') (fX.w) (getW L a) fW v1 v2 a ea W (h.2 _ _ _ hge) (h.2 _ _ _ het) h1 h2
  have HSw := fun W v1 v2 (h1 : PartsV W v1 (setW (setW L a s') a (getW L a))) (h2 : PartsV W v2 L) => worldSame_any _ _ (fY.w) (fL.w) v1 v2 W h1 h2
  have HR := fun W (h : KeepC w W) v1 (h1 : PartsV W v1 (setW L a s')) => worldRight_any (setW L a s') (fX.w) v1 ea W (h.2 _ _ _ hge) h1
  have HGa := fun W (h : KeepC w W) v1 (h1 : PartsV W v1 (setW L a s')) => Get_any (setW L a s') (fX.w) v1 a ea W (h.2 _ _ _ hge) h1
  have HSa := fun W v1 v2 (h1 : ObjsV W v1 (getW (setW L a s') a)) (h2 : ObjsV W v2 s') => sameR_any _ _ fGa fs v1 v2 W h1 h2
  have HGb := fun W (h : KeepC w W) v1 (h1 : PartsV W v1 (setW L a s')) => Get_any (setW L a s') (fX.w) v1 b ea W (h.2 _ _ _ hge) h1
  have HLb := fun W (h : KeepC w W) v1 (h1 : PartsV W v1 L) => Get_any L (fL.w) v1 b ea W (h.2 _ _ _ hge) h1
  have HSb := fun W v1 v2 (h1 : ObjsV W v1 (getW (setW L a s') b)) (h2 : ObjsV W v2 (getW L b)) => sameR_any _ _ fGb fLb v1 v2 W h1 h2
  have P1 := back_ok (L := L) (a := a) (b := b) (s := s')
  have P2 := setW_no (w := L) (a := a) (l := s')
  have P3 := setE_codes (w := L) (a := a) (l := s')
  generalize setW (setW L a s') a (getW L a) = Y at *
  generalize setE (setW L a s') a (getW L a) = F at *
  generalize getW (setW L a s') a = Ga at *
  generalize getW (setW L a s') b = Gb at *
  generalize getW L a = Wa at *
  generalize getW L b = Lb at *
  generalize setW L a s' = X at *
  generalize setE L a s' = E at *
  obtain ⟨l1, S1, i1⟩ := a
  obtain ⟨l2, S2, i2⟩ := b
  have B0 := ((Below.refl _ w).alloc (Nat.le_refl _) (.cells #[.int .i64 l1, .int .u64 S1, .int .i64 i1] 25)).alloc (by simp) (.cells #[.int .i64 l2, .int .u64 S2, .int .i64 i2] 25)
  have n1 := (Blk.new w #[.int .i64 l1, .int .u64 S1, .int .i64 i1] 25).alloc (.cells #[.int .i64 l2, .int .u64 S2, .int .i64 i2] 25)
  have n2 := Blk.new (w.alloc (.cells #[.int .i64 l1, .int .u64 S1, .int .i64 i1] 25)) #[.int .i64 l2, .int .u64 S2, .int .i64 i2] 25
  rw [World.size_alloc] at n2
  have Q1 := Lib.hid P1
  have Q2 := Lib.hid P2
  have Q3 := Lib.hid P3
  clear P1 P2 P3 hge het hv hsv hi his fX fY fL fs fW fGa fGb fLb hl hs
  go_enter Tryd.func5, Tryd.ntmps5
  go_wp2_with fail
  generalize (w.alloc (.cells #[.int .i64 l1, .int .u64 S1, .int .i64 i1] 25)).alloc (.cells #[.int .i64 l2, .int .u64 S2, .int .i64 i2] 25) = W0 at *
  have NN : Hid (∀ W, Below W0.heap.size W0 W → Blk W w.heap.size #[.int .i64 l1, .int .u64 S1, .int .i64 i1] 25 ∧ Blk W (w.heap.size + 1) #[.int .i64 l2, .int .u64 S2, .int .i64 i2] 25) := by
    show ∀ W, _
    intro W h
    exact ⟨n1.below h n1.lt, n2.below h n2.lt⟩
  clear n1 n2
  with_reducible refine (HSh _ (KeepC.of_below B0)).mono ?_
  rintro e w1 ⟨rfl, b1⟩
  have C1 := b1
  have B1 := B0.trans (b1.mono B0.size)
  go_wp2_with fail
  with_reducible refine (HF _ (KeepC.of_below B1)).mono ?_
  rintro e w2 ⟨vL, rfl, oL, b2⟩
  have C2 := C1.trans (b2.mono C1.size)
  have B2 := B1.trans (b2.mono B1.size)
  go_wp2_with fail
  with_reducible refine (HFs _ (KeepC.of_below B2)).mono ?_
  rintro e w3 ⟨vs, rfl, os, b3⟩
  have C3 := C2.trans (b3.mono C2.size)
  have B3 := B2.trans (b3.mono B2.size)
  have pL := oL.view.keep (KeepC.of_below b3)
  have ps := os.view
  clear HSh HF HFs oL os b1 b2
  have NC := Lib.hid (NN.out _ C3)
  have d0 := NC.out.1.cell 0
  have d1 := NC.out.1.cell 1
  have d2 := NC.out.1.cell 2
  simp at d0 d1 d2
  go_wp2_with fail
  with_reducible refine (HG _ (KeepC.of_below B3) _ pL).mono ?_
  rintro e w4 ⟨v4, rfl, o4, b4⟩
  have C4 := C3.trans (b4.mono C3.size)
  have B4 := B3.trans (b4.mono B3.size)
  have k4 := KeepC.of_below b4
  replace pL := pL.keep k4
  replace ps := ps.keep k4
  have pw := o4.view
  have NC4 := Lib.hid (NN.out _ C4)
  clear d0 d1 d2 NC HG o4 b3
  have d0 := NC4.out.1.cell 0
  have d1 := NC4.out.1.cell 1
  have d2 := NC4.out.1.cell 2
  simp at d0 d1 d2
  go_wp2_with fail
  with_reducible refine (HX _ (KeepC.of_below B4) _ _ pL ps).mono ?_
  rintro e w5 ⟨v5, rfl, o5, b5⟩
  have C5 := C4.trans (b5.mono C4.size)
  have B5 := B4.trans (b5.mono B4.size)
  have k5 := KeepC.of_below b5
  replace pL := pL.keep k5
  replace ps := ps.keep k5
  replace pw := pw.keep k5
  have px := o5.view
  obtain ⟨a5, c5, rfl, -⟩ := px.at
  have NC5 := Lib.hid (NN.out _ C5)
  clear d0 d1 d2 NC4 HX o5
  by_cases hE : E = 0
  · subst hE
    obtain ⟨hF, hYs, hRt, hSa, hSb⟩ := Q1.out rfl
    subst hF
    have d0 := NC5.out.1.cell 0
    have d1 := NC5.out.1.cell 1
    have d2 := NC5.out.1.cell 2
    simp at d0 d1 d2
    rw [hYs] at HSw
    rw [hRt] at HR
    rw [hSa] at HSa
    clear hYs hRt hSa Q1 Q2 Q3
    go_wp2_with fail
    with_reducible refine (HY _ (KeepC.of_below B5) _ _ px pw).mono ?_
    rintro e w6 ⟨v6, rfl, o6, b6⟩
    have C6 := C5.trans (b6.mono C5.size)
    have B6 := B5.trans (b6.mono B5.size)
    have k6 := KeepC.of_below b6
    replace pL := pL.keep k6
    replace ps := ps.keep k6
    replace px := px.keep k6
    have py := o6.view
    have SK : Hid (∀ u, Below W0.heap.size W0 u → (u.cell? ⟨w.heap.size, 0, none⟩ = some (.int .i64 l1) ∧ u.cell? ⟨w.heap.size, 1, none⟩ = some (.int .u64 S1) ∧ u.cell? ⟨w.heap.size, 2, none⟩ = some (.int .i64 i1)) ∧ u.cell? ⟨w.heap.size + 1, 0, none⟩ = some (.int .i64 l2) ∧ u.cell? ⟨w.heap.size + 1, 1, none⟩ = some (.int .u64 S2) ∧ u.cell? ⟨w.heap.size + 1, 2, none⟩ = some (.int .i64 i2)) := by
      show ∀ u, _
      intro u h
      obtain ⟨m1, m2⟩ := NN.out u h
      have e0 := m1.cell 0
      have e1 := m1.cell 1
      have e2 := m1.cell 2
      have g0 := m2.cell 0
      have g1 := m2.cell 1
      have g2 := m2.cell 2
      simp at e0 e1 e2 g0 g1 g2
      exact ⟨⟨e0, e1, e2⟩, g0, g1, g2⟩
    clear d0 d1 d2 NC5 HY o6 pw
    go_wp2_with fail
    rcases lbl_cases l1 S1 i1 l2 S2 i2 with ⟨-, rfl, rfl, rfl⟩ | ⟨hd, hz⟩
    · clear hSb HGb HLb HSb
      refine wp_region_noPanic ?_
      refine wp_region_held_drew (S := (fun u => (u.cell? ⟨w.heap.size, 0, none⟩ = some (.int .i64 l1) ∧ u.cell? ⟨w.heap.size, 1, none⟩ = some (.int .u64 S1) ∧ u.cell? ⟨w.heap.size, 2, none⟩ = some (.int .i64 i1)) ∧ u.cell? ⟨w.heap.size + 1, 0, none⟩ = some (.int .i64 l1) ∧ u.cell? ⟨w.heap.size + 1, 1, none⟩ = some (.int .u64 S1) ∧ u.cell? ⟨w.heap.size + 1, 2, none⟩ = some (.int .i64 i1))) (by kernel_rfl) ?_ (fun hHeld => ?_)
      · exact SK.out _ C6.drew
      refine wpAnyH_take (i := 0) (oi := _) (v := ?_) (nth_at rfl) (by kernel_rfl) (by kernel_rfl) (by kernel_rfl) (fun _ _ _ h => h) (Or.inl ⟨by rfl, ?_⟩) (by assumption) ?_
      rotate_left 1
      · intro w hSw; (try dsimp only at hSw); (go_simp <;> with_reducible rfl)
      try simp only [Act.put, List.setIfInBounds_toArray, List.set_cons_zero, List.set_cons_succ]
      refine wpAnyH_take (i := 1) (oi := _) (v := ?_) (nth_at rfl) (by kernel_rfl) (by kernel_rfl) (by kernel_rfl) (fun _ _ _ h => h) (Or.inl ⟨by rfl, ?_⟩) (by assumption) ?_
      rotate_left 1
      · intro w hSw; (try dsimp only at hSw); (go_simp <;> with_reducible rfl)
      try simp only [Act.put, List.setIfInBounds_toArray, List.set_cons_zero, List.set_cons_succ]
      refine wpAnyH_take (i := 2) (oi := _) (v := ?_) (nth_at rfl) (by kernel_rfl) (by kernel_rfl) (by kernel_rfl) (fun _ _ _ h => h) (Or.inl ⟨by rfl, ?_⟩) (by assumption) ?_
      rotate_left 1
      · intro w hSw; (try dsimp only at hSw); (go_simp <;> with_reducible rfl)
      try simp only [Act.put, List.setIfInBounds_toArray, List.set_cons_zero, List.set_cons_succ]
      refine wpAnyH_take (i := 3) (oi := _) (v := ?_) (nth_at rfl) (by kernel_rfl) (by kernel_rfl) (by kernel_rfl) (fun _ _ _ h => h) (Or.inl ⟨by rfl, ?_⟩) (by assumption) ?_
      rotate_left 1
      · intro w hSw; (try dsimp only at hSw); (go_simp <;> with_reducible rfl)
      try simp only [Act.put, List.setIfInBounds_toArray, List.set_cons_zero, List.set_cons_succ]
      refine wpAnyH_take (i := 4) (oi := _) (v := ?_) (nth_at rfl) (by kernel_rfl) (by kernel_rfl) (by kernel_rfl) (fun _ _ _ h => h) (Or.inl ⟨by rfl, ?_⟩) (by assumption) ?_
      rotate_left 1
      · intro w hSw; (try dsimp only at hSw); (go_simp <;> with_reducible rfl)
      try simp only [Act.put, List.setIfInBounds_toArray, List.set_cons_zero, List.set_cons_succ]
      refine wpAnyH_take (i := 5) (oi := _) (v := ?_) (nth_at rfl) (by kernel_rfl) (by kernel_rfl) (by kernel_rfl) (fun _ _ _ h => h) (Or.inl ⟨by rfl, ?_⟩) (by assumption) ?_
      rotate_left 1
      · intro w hSw; (try dsimp only at hSw); (go_simp <;> with_reducible rfl)
      try simp only [Act.put, List.setIfInBounds_toArray, List.set_cons_zero, List.set_cons_succ]
      refine wpAnyH_take (i := 6) (oi := _) (v := ?_) (nth_at rfl) (by kernel_rfl) (by kernel_rfl) (by kernel_rfl) (fun _ _ _ h => h) (Or.inl ⟨by rfl, ?_⟩) (by assumption) ?_
      rotate_left 1
      · intro w hSw; (try dsimp only at hSw); (go_simp <;> with_reducible rfl)
      try simp only [Act.put, List.setIfInBounds_toArray, List.set_cons_zero, List.set_cons_succ]
      refine wpAnyH_take (i := 7) (oi := _) (v := ?_) (nth_at rfl) (by kernel_rfl) (by kernel_rfl) (by kernel_rfl) (fun _ _ _ h => h) (Or.inl ⟨by rfl, ?_⟩) (by assumption) ?_
      rotate_left 1
      · intro w hSw; (try dsimp only at hSw); (go_simp <;> with_reducible rfl)
      try simp only [Act.put, List.setIfInBounds_toArray, List.set_cons_zero, List.set_cons_succ]
      refine wpAnyH_ready (rs := [8]) (by kernel_rfl) (by simp) ?_
      refine AllReadyH.cons (o := _) (nth_at rfl) (fun K hK => ?_) AllReadyH.nil
      go_simp
      with_reducible refine (HSw _ _ _ (py.keep (KeepC.of_below (Below.refl w6.heap.size w6).drew)) (pL.keep (KeepC.of_below (Below.refl w6.heap.size w6).drew))).mono ?_
      rintro e w7 ⟨rfl, b7'⟩
      have b7 := (Below.refl w6.heap.size w6).drew.trans b7'
      have C7 := C6.trans (b7.mono C6.size)
      have B7 := B6.trans (b7.mono B6.size)
      have k7 := KeepC.of_below b7
      replace pL := pL.keep k7
      replace ps := ps.keep k7
      replace px := px.keep k7
      try dsimp only
      refine hK.out _ _ ?_ (fun hHeld => ?_)
      · exact SK.out _ C7
      clear hK K
      try simp only [Act.put, List.setIfInBounds_toArray, List.set_cons_zero, List.set_cons_succ]
      refine wpAnyH_take (i := 9) (oi := _) (v := ?_) (nth_at rfl) (by kernel_rfl) (by kernel_rfl) (by kernel_rfl) (fun _ _ _ h => h) (Or.inl ⟨by rfl, ?_⟩) (by assumption) ?_
      rotate_left 1
      · intro w hSw; (try dsimp only at hSw); (go_simp <;> with_reducible rfl)
      try simp only [Act.put, List.setIfInBounds_toArray, List.set_cons_zero, List.set_cons_succ]
      refine wpAnyH_take (i := 10) (oi := _) (v := ?_) (nth_at rfl) (by kernel_rfl) (by kernel_rfl) (by kernel_rfl) (fun _ _ _ h => h) (Or.inl ⟨by rfl, ?_⟩) (by assumption) ?_
      rotate_left 1
      · intro w hSw; (try dsimp only at hSw); (go_simp <;> with_reducible rfl)
      try simp only [Act.put, List.setIfInBounds_toArray, List.set_cons_zero, List.set_cons_succ]
      refine wpAnyH_take (i := 11) (oi := _) (v := ?_) (nth_at rfl) (by kernel_rfl) (by kernel_rfl) (by kernel_rfl) (fun _ _ _ h => h) (Or.inl ⟨by rfl, ?_⟩) (by assumption) ?_
      rotate_left 1
      · intro w hSw; (try dsimp only at hSw); (go_simp <;> with_reducible rfl)
      try simp only [Act.put, List.setIfInBounds_toArray, List.set_cons_zero, List.set_cons_succ]
      refine wpAnyH_ready (rs := [12]) (by kernel_rfl) (by simp) ?_
      refine AllReadyH.cons (o := _) (nth_at rfl) (fun K hK => ?_) AllReadyH.nil
      go_simp
      with_reducible refine (HR _ (KeepC.of_below B7) _ px).mono ?_
      rintro e w8 ⟨rfl, b8⟩
      have C8 := C7.trans (b8.mono C7.size)
      have B8 := B7.trans (b8.mono B7.size)
      have k8 := KeepC.of_below b8
      replace pL := pL.keep k8
      replace ps := ps.keep k8
      replace px := px.keep k8
      try dsimp only
      refine hK.out _ _ ?_ (fun hHeld => ?_)
      · exact SK.out _ C8
      clear hK K
      try simp only [Act.put, List.setIfInBounds_toArray, List.set_cons_zero, List.set_cons_succ]
      refine wpAnyH_take (i := 13) (oi := _) (v := ?_) (nth_at rfl) (by kernel_rfl) (by kernel_rfl) (by kernel_rfl) (fun _ _ _ h => h) (Or.inl ⟨by rfl, ?_⟩) (by assumption) ?_
      rotate_left 1
      · intro w hSw; (try dsimp only at hSw); (go_simp <;> with_reducible rfl)
      try simp only [Act.put, List.setIfInBounds_toArray, List.set_cons_zero, List.set_cons_succ]
      refine wpAnyH_take (i := 14) (oi := _) (v := ?_) (nth_at rfl) (by kernel_rfl) (by kernel_rfl) (by kernel_rfl) (fun _ _ _ h => h) (Or.inl ⟨by rfl, ?_⟩) (by assumption) ?_
      rotate_left 1
      · intro w hSw; (try dsimp only at hSw); (go_simp <;> with_reducible rfl)
      try simp only [Act.put, List.setIfInBounds_toArray, List.set_cons_zero, List.set_cons_succ]
      refine wpAnyH_take (i := 15) (oi := _) (v := ?_) (nth_at rfl) (by kernel_rfl) (by kernel_rfl) (by kernel_rfl) (fun _ _ _ h => h) (Or.inl ⟨by rfl, ?_⟩) (by assumption) ?_
      rotate_left 1
      · intro w hSw; (try dsimp only at hSw); (go_simp <;> with_reducible rfl)
      try simp only [Act.put, List.setIfInBounds_toArray, List.set_cons_zero, List.set_cons_succ]
      refine wpAnyH_take (i := 16) (oi := _) (v := ?_) (nth_at rfl) (by kernel_rfl) (by kernel_rfl) (by kernel_rfl) (fun _ _ _ h => h) (Or.inl ⟨by rfl, ?_⟩) (by assumption) ?_
      rotate_left 1
      · intro w hSw; (try dsimp only at hSw); (go_simp <;> with_reducible rfl)
      try simp only [Act.put, List.setIfInBounds_toArray, List.set_cons_zero, List.set_cons_succ]
      refine wpAnyH_take (i := 18) (oi := _) (v := ?_) (nth_at rfl) (by kernel_rfl) (by kernel_rfl) (by kernel_rfl) (fun _ _ _ h => h) (Or.inl ⟨by rfl, ?_⟩) (by assumption) ?_
      rotate_left 1
      · intro w hSw; (try dsimp only at hSw); (go_simp <;> with_reducible rfl)
      try simp only [Act.put, List.setIfInBounds_toArray, List.set_cons_zero, List.set_cons_succ]
      refine wpAnyH_ready (rs := [17]) (by kernel_rfl) (by simp) ?_
      refine AllReadyH.cons (o := _) (nth_at rfl) (fun K hK => ?_) AllReadyH.nil
      go_simp
      with_reducible refine (HGa _ (KeepC.of_below B8) _ px).mono ?_
      rintro e w9 ⟨v9, rfl, o9, b9⟩
      have C9 := C8.trans (b9.mono C8.size)
      have B9 := B8.trans (b9.mono B8.size)
      have k9 := KeepC.of_below b9
      replace pL := pL.keep k9
      replace ps := ps.keep k9
      replace px := px.keep k9
      have pga := o9.view
      clear o9
      try dsimp only
      refine hK.out _ _ ?_ (fun hHeld => ?_)
      · exact SK.out _ C9
      clear hK K
      try simp only [Act.put, List.setIfInBounds_toArray, List.set_cons_zero, List.set_cons_succ]
      refine wpAnyH_ready (rs := [19]) (by kernel_rfl) (by simp) ?_
      refine AllReadyH.cons (o := _) (nth_at rfl) (fun K hK => ?_) AllReadyH.nil
      go_simp
      with_reducible refine (HSa _ _ _ pga ps).mono ?_
      rintro e w10 ⟨rfl, b10⟩
      have C10 := C9.trans (b10.mono C9.size)
      have B10 := B9.trans (b10.mono B9.size)
      have k10 := KeepC.of_below b10
      replace pL := pL.keep k10
      replace px := px.keep k10
      try dsimp only
      refine hK.out _ _ ?_ (fun hHeld => ?_)
      · exact SK.out _ C10
      clear hK K
      try simp only [Act.put, List.setIfInBounds_toArray, List.set_cons_zero, List.set_cons_succ]
      refine wpAnyH_take (i := 20) (oi := _) (v := ?_) (nth_at rfl) (by kernel_rfl) (by kernel_rfl) (by kernel_rfl) (fun _ _ _ h => h) (Or.inl ⟨by rfl, ?_⟩) (by assumption) ?_
      rotate_left 1
      · intro w hSw; (try dsimp only at hSw); (go_simp <;> with_reducible rfl)
      try simp only [Act.put, List.setIfInBounds_toArray, List.set_cons_zero, List.set_cons_succ]
      refine wpAnyH_take (i := 21) (oi := _) (v := ?_) (nth_at rfl) (by kernel_rfl) (by kernel_rfl) (by kernel_rfl) (fun _ _ _ h => h) (Or.inl ⟨by rfl, ?_⟩) (by assumption) ?_
      rotate_left 1
      · intro w hSw; (try dsimp only at hSw); (go_simp <;> with_reducible rfl)
      try simp only [Act.put, List.setIfInBounds_toArray, List.set_cons_zero, List.set_cons_succ]
      refine wpAnyH_take (i := 22) (oi := _) (v := ?_) (nth_at rfl) (by kernel_rfl) (by kernel_rfl) (by kernel_rfl) (fun _ _ _ h => h) (Or.inl ⟨by rfl, ?_⟩) (by assumption) ?_
      rotate_left 1
      · intro w hSw; (try dsimp only at hSw); (go_simp <;> with_reducible rfl)
      try simp only [Act.put, List.setIfInBounds_toArray, List.set_cons_zero, List.set_cons_succ]
      refine wpAnyH_take (i := 23) (oi := _) (v := ?_) (nth_at rfl) (by kernel_rfl) (by kernel_rfl) (by kernel_rfl) (fun _ _ _ h => h) (Or.inl ⟨by rfl, ?_⟩) (by assumption) ?_
      rotate_left 1
      · intro w hSw; (try dsimp only at hSw); (go_simp <;> with_reducible rfl)
      try simp only [Act.put, List.setIfInBounds_toArray, List.set_cons_zero, List.set_cons_succ]
      refine wpAnyH_take (i := 24) (oi := _) (v := ?_) (nth_at rfl) (by kernel_rfl) (by kernel_rfl) (by kernel_rfl) (fun _ _ _ h => h) (Or.inl ⟨by rfl, ?_⟩) (by assumption) ?_
      rotate_left 1
      · intro w hSw; (try dsimp only at hSw); (go_simp <;> with_reducible rfl)
      try simp only [Act.put, List.setIfInBounds_toArray, List.set_cons_zero, List.set_cons_succ]
      refine wpAnyH_take (i := 25) (oi := _) (v := ?_) (nth_at rfl) (by kernel_rfl) (by kernel_rfl) (by kernel_rfl) (fun _ _ _ h => h) (Or.inl ⟨by rfl, ?_⟩) (by assumption) ?_
      rotate_left 1
      · intro w hSw; (try dsimp only at hSw); (go_simp <;> with_reducible rfl)
      try simp only [Act.put, List.setIfInBounds_toArray, List.set_cons_zero, List.set_cons_succ]
      refine wpAnyH_take (i := 26) (oi := _) (v := undef) (nth_at rfl) (by kernel_rfl) (by kernel_rfl) (by kernel_rfl) (fun _ _ _ h => h) (Or.inr ⟨by rfl, rfl⟩) (by assumption) ?_
      try simp only [Act.put, List.setIfInBounds_toArray, List.set_cons_zero, List.set_cons_succ]
      refine wpAnyH_take (i := 27) (oi := _) (v := undef) (nth_at rfl) (by kernel_rfl) (by kernel_rfl) (by kernel_rfl) (fun _ _ _ h => h) (Or.inr ⟨by rfl, rfl⟩) (by assumption) ?_
      try simp only [Act.put, List.setIfInBounds_toArray, List.set_cons_zero, List.set_cons_succ]
      refine wpAnyH_take (i := 28) (oi := _) (v := undef) (nth_at rfl) (by kernel_rfl) (by kernel_rfl) (by kernel_rfl) (fun _ _ _ h => h) (Or.inr ⟨by rfl, rfl⟩) (by assumption) ?_
      try simp only [Act.put, List.setIfInBounds_toArray, List.set_cons_zero, List.set_cons_succ]
      refine wpAnyH_take (i := 29) (oi := _) (v := undef) (nth_at rfl) (by kernel_rfl) (by kernel_rfl) (by kernel_rfl) (fun _ _ _ h => h) (Or.inr ⟨by rfl, rfl⟩) (by assumption) ?_
      try simp only [Act.put, List.setIfInBounds_toArray, List.set_cons_zero, List.set_cons_succ]
      refine wpAnyH_take (i := 30) (oi := _) (v := undef) (nth_at rfl) (by kernel_rfl) (by kernel_rfl) (by kernel_rfl) (fun _ _ _ h => h) (Or.inr ⟨by rfl, rfl⟩) (by assumption) ?_
      try simp only [Act.put, List.setIfInBounds_toArray, List.set_cons_zero, List.set_cons_succ]
      refine wpAnyH_take (i := 31) (oi := _) (v := undef) (nth_at rfl) (by kernel_rfl) (by kernel_rfl) (by kernel_rfl) (fun _ _ _ h => h) (Or.inr ⟨by rfl, rfl⟩) (by assumption) ?_
      try simp only [Act.put, List.setIfInBounds_toArray, List.set_cons_zero, List.set_cons_succ]
      refine wpAnyH_take (i := 32) (oi := _) (v := undef) (nth_at rfl) (by kernel_rfl) (by kernel_rfl) (by kernel_rfl) (fun _ _ _ h => h) (Or.inr ⟨by rfl, rfl⟩) (by assumption) ?_
      try simp only [Act.put, List.setIfInBounds_toArray, List.set_cons_zero, List.set_cons_succ]
      refine wpAnyH_take (i := 33) (oi := _) (v := ?_) (nth_at rfl) (by kernel_rfl) (by kernel_rfl) (by kernel_rfl) (fun _ _ _ h => h) (Or.inl ⟨by rfl, ?_⟩) (by assumption) ?_
      rotate_left 1
      · intro w hSw; (try dsimp only at hSw); (go_simp <;> with_reducible rfl)
      try simp only [Act.put, List.setIfInBounds_toArray, List.set_cons_zero, List.set_cons_succ]
      refine wpAnyH_take (i := 34) (oi := _) (v := ?_) (nth_at rfl) (by kernel_rfl) (by kernel_rfl) (by kernel_rfl) (fun _ _ _ h => h) (Or.inl ⟨by rfl, ?_⟩) (by assumption) ?_
      rotate_left 1
      · intro w hSw; (try dsimp only at hSw); (go_simp <;> with_reducible rfl)
      try simp only [Act.put, List.setIfInBounds_toArray, List.set_cons_zero, List.set_cons_succ]
      refine wpAnyH_take (i := 35) (oi := _) (v := ?_) (nth_at rfl) (by kernel_rfl) (by kernel_rfl) (by kernel_rfl) (fun _ _ _ h => h) (Or.inl ⟨by rfl, ?_⟩) (by assumption) ?_
      rotate_left 1
      · intro w hSw; (try dsimp only at hSw); (go_simp <;> with_reducible rfl)
      try simp only [Act.put, List.setIfInBounds_toArray, List.set_cons_zero, List.set_cons_succ]
      refine wpAnyH_done (by kernel_rfl) ?_ _
      refine NoPanic.normal ?_
      go_wp2_with fail
      go_ret
      exact ⟨rfl, B10⟩
    · rw [hSb hd] at HSb
      clear hSb hd
      rcases hz with hz | ⟨hz1, hz⟩ | ⟨hz1, hz2, hz⟩
      · refine wp_region_noPanic ?_
        refine wp_region_held_drew (S := (fun u => (u.cell? ⟨w.heap.size, 0, none⟩ = some (.int .i64 l1) ∧ u.cell? ⟨w.heap.size, 1, none⟩ = some (.int .u64 S1) ∧ u.cell? ⟨w.heap.size, 2, none⟩ = some (.int .i64 i1)) ∧ u.cell? ⟨w.heap.size + 1, 0, none⟩ = some (.int .i64 l2) ∧ u.cell? ⟨w.heap.size + 1, 1, none⟩ = some (.int .u64 S2) ∧ u.cell? ⟨w.heap.size + 1, 2, none⟩ = some (.int .i64 i2))) (by kernel_rfl) ?_ (fun hHeld => ?_)
        · exact SK.out _ C6.drew
        refine wpAnyH_take (i := 0) (oi := _) (v := ?_) (nth_at rfl) (by kernel_rfl) (by kernel_rfl) (by kernel_rfl) (fun _ _ _ h => h) (Or.inl ⟨by rfl, ?_⟩) (by assumption) ?_
        rotate_left 1
        · intro w hSw; (try dsimp only at hSw); (go_simp <;> with_reducible rfl)
        try simp only [Act.put, List.setIfInBounds_toArray, List.set_cons_zero, List.set_cons_succ]
        refine wpAnyH_take (i := 1) (oi := _) (v := ?_) (nth_at rfl) (by kernel_rfl) (by kernel_rfl) (by kernel_rfl) (fun _ _ _ h => h) (Or.inl ⟨by rfl, ?_⟩) (by assumption) ?_
        rotate_left 1
        · intro w hSw; (try dsimp only at hSw); (go_simp <;> with_reducible rfl)
        try simp only [Act.put, List.setIfInBounds_toArray, List.set_cons_zero, List.set_cons_succ]
        refine wpAnyH_take (i := 2) (oi := _) (v := ?_) (nth_at rfl) (by kernel_rfl) (by kernel_rfl) (by kernel_rfl) (fun _ _ _ h => h) (Or.inl ⟨by rfl, ?_⟩) (by assumption) ?_
        rotate_left 1
        · intro w hSw; (try dsimp only at hSw); (go_simp <;> with_reducible rfl)
        try simp only [Act.put, List.setIfInBounds_toArray, List.set_cons_zero, List.set_cons_succ]
        refine wpAnyH_take (i := 3) (oi := _) (v := ?_) (nth_at rfl) (by kernel_rfl) (by kernel_rfl) (by kernel_rfl) (fun _ _ _ h => h) (Or.inl ⟨by rfl, ?_⟩) (by assumption) ?_
        rotate_left 1
        · intro w hSw; (try dsimp only at hSw); (go_simp <;> with_reducible rfl)
        try simp only [Act.put, List.setIfInBounds_toArray, List.set_cons_zero, List.set_cons_succ]
        refine wpAnyH_take (i := 4) (oi := _) (v := ?_) (nth_at rfl) (by kernel_rfl) (by kernel_rfl) (by kernel_rfl) (fun _ _ _ h => h) (Or.inl ⟨by rfl, ?_⟩) (by assumption) ?_
        rotate_left 1
        · intro w hSw; (try dsimp only at hSw); (go_simp <;> with_reducible rfl)
        try simp only [Act.put, List.setIfInBounds_toArray, List.set_cons_zero, List.set_cons_succ]
        refine wpAnyH_take (i := 5) (oi := _) (v := ?_) (nth_at rfl) (by kernel_rfl) (by kernel_rfl) (by kernel_rfl) (fun _ _ _ h => h) (Or.inl ⟨by rfl, ?_⟩) (by assumption) ?_
        rotate_left 1
        · intro w hSw; (try dsimp only at hSw); (go_simp <;> with_reducible rfl)
        try simp only [Act.put, List.setIfInBounds_toArray, List.set_cons_zero, List.set_cons_succ]
        refine wpAnyH_take (i := 6) (oi := _) (v := ?_) (nth_at rfl) (by kernel_rfl) (by kernel_rfl) (by kernel_rfl) (fun _ _ _ h => h) (Or.inl ⟨by rfl, ?_⟩) (by assumption) ?_
        rotate_left 1
        · intro w hSw; (try dsimp only at hSw); (go_simp <;> with_reducible rfl)
        try simp only [Act.put, List.setIfInBounds_toArray, List.set_cons_zero, List.set_cons_succ]
        refine wpAnyH_take (i := 7) (oi := _) (v := ?_) (nth_at rfl) (by kernel_rfl) (by kernel_rfl) (by kernel_rfl) (fun _ _ _ h => h) (Or.inl ⟨by rfl, ?_⟩) (by assumption) ?_
        rotate_left 1
        · intro w hSw; (try dsimp only at hSw); (go_simp <;> with_reducible rfl)
        try simp only [Act.put, List.setIfInBounds_toArray, List.set_cons_zero, List.set_cons_succ]
        refine wpAnyH_ready (rs := [8]) (by kernel_rfl) (by simp) ?_
        refine AllReadyH.cons (o := _) (nth_at rfl) (fun K hK => ?_) AllReadyH.nil
        go_simp
        with_reducible refine (HSw _ _ _ (py.keep (KeepC.of_below (Below.refl w6.heap.size w6).drew)) (pL.keep (KeepC.of_below (Below.refl w6.heap.size w6).drew))).mono ?_
        rintro e w7 ⟨rfl, b7'⟩
        have b7 := (Below.refl w6.heap.size w6).drew.trans b7'
        have C7 := C6.trans (b7.mono C6.size)
        have B7 := B6.trans (b7.mono B6.size)
        have k7 := KeepC.of_below b7
        replace pL := pL.keep k7
        replace ps := ps.keep k7
        replace px := px.keep k7
        try dsimp only
        refine hK.out _ _ ?_ (fun hHeld => ?_)
        · exact SK.out _ C7
        clear hK K
        try simp only [Act.put, List.setIfInBounds_toArray, List.set_cons_zero, List.set_cons_succ]
        refine wpAnyH_take (i := 9) (oi := _) (v := ?_) (nth_at rfl) (by kernel_rfl) (by kernel_rfl) (by kernel_rfl) (fun _ _ _ h => h) (Or.inl ⟨by rfl, ?_⟩) (by assumption) ?_
        rotate_left 1
        · intro w hSw; (try dsimp only at hSw); (go_simp <;> with_reducible rfl)
        try simp only [Act.put, List.setIfInBounds_toArray, List.set_cons_zero, List.set_cons_succ]
        refine wpAnyH_take (i := 10) (oi := _) (v := ?_) (nth_at rfl) (by kernel_rfl) (by kernel_rfl) (by kernel_rfl) (fun _ _ _ h => h) (Or.inl ⟨by rfl, ?_⟩) (by assumption) ?_
        rotate_left 1
        · intro w hSw; (try dsimp only at hSw); (go_simp <;> with_reducible rfl)
        try simp only [Act.put, List.setIfInBounds_toArray, List.set_cons_zero, List.set_cons_succ]
        refine wpAnyH_take (i := 11) (oi := _) (v := ?_) (nth_at rfl) (by kernel_rfl) (by kernel_rfl) (by kernel_rfl) (fun _ _ _ h => h) (Or.inl ⟨by rfl, ?_⟩) (by assumption) ?_
        rotate_left 1
        · intro w hSw; (try dsimp only at hSw); (go_simp <;> with_reducible rfl)
        try simp only [Act.put, List.setIfInBounds_toArray, List.set_cons_zero, List.set_cons_succ]
        refine wpAnyH_ready (rs := [12]) (by kernel_rfl) (by simp) ?_
        refine AllReadyH.cons (o := _) (nth_at rfl) (fun K hK => ?_) AllReadyH.nil
        go_simp
        with_reducible refine (HR _ (KeepC.of_below B7) _ px).mono ?_
        rintro e w8 ⟨rfl, b8⟩
        have C8 := C7.trans (b8.mono C7.size)
        have B8 := B7.trans (b8.mono B7.size)
        have k8 := KeepC.of_below b8
        replace pL := pL.keep k8
        replace ps := ps.keep k8
        replace px := px.keep k8
        try dsimp only
        refine hK.out _ _ ?_ (fun hHeld => ?_)
        · exact SK.out _ C8
        clear hK K
        try simp only [Act.put, List.setIfInBounds_toArray, List.set_cons_zero, List.set_cons_succ]
        refine wpAnyH_take (i := 13) (oi := _) (v := ?_) (nth_at rfl) (by kernel_rfl) (by kernel_rfl) (by kernel_rfl) (fun _ _ _ h => h) (Or.inl ⟨by rfl, ?_⟩) (by assumption) ?_
        rotate_left 1
        · intro w hSw; (try dsimp only at hSw); (go_simp <;> with_reducible rfl)
        try simp only [Act.put, List.setIfInBounds_toArray, List.set_cons_zero, List.set_cons_succ]
        refine wpAnyH_take (i := 14) (oi := _) (v := ?_) (nth_at rfl) (by kernel_rfl) (by kernel_rfl) (by kernel_rfl) (fun _ _ _ h => h) (Or.inl ⟨by rfl, ?_⟩) (by assumption) ?_
        rotate_left 1
        · intro w hSw; (try dsimp only at hSw); (go_simp <;> with_reducible rfl)
        try simp only [Act.put, List.setIfInBounds_toArray, List.set_cons_zero, List.set_cons_succ]
        refine wpAnyH_take (i := 15) (oi := _) (v := ?_) (nth_at rfl) (by kernel_rfl) (by kernel_rfl) (by kernel_rfl) (fun _ _ _ h => h) (Or.inl ⟨by rfl, ?_⟩) (by assumption) ?_
        rotate_left 1
        · intro w hSw; (try dsimp only at hSw); (go_simp <;> with_reducible rfl)
        try simp only [Act.put, List.setIfInBounds_toArray, List.set_cons_zero, List.set_cons_succ]
        refine wpAnyH_take (i := 16) (oi := _) (v := ?_) (nth_at rfl) (by kernel_rfl) (by kernel_rfl) (by kernel_rfl) (fun _ _ _ h => h) (Or.inl ⟨by rfl, ?_⟩) (by assumption) ?_
        rotate_left 1
        · intro w hSw; (try dsimp only at hSw); (go_simp <;> with_reducible rfl)
        try simp only [Act.put, List.setIfInBounds_toArray, List.set_cons_zero, List.set_cons_succ]
        refine wpAnyH_take (i := 18) (oi := _) (v := ?_) (nth_at rfl) (by kernel_rfl) (by kernel_rfl) (by kernel_rfl) (fun _ _ _ h => h) (Or.inl ⟨by rfl, ?_⟩) (by assumption) ?_
        rotate_left 1
        · intro w hSw; (try dsimp only at hSw); (go_simp <;> with_reducible rfl)
        try simp only [Act.put, List.setIfInBounds_toArray, List.set_cons_zero, List.set_cons_succ]
        refine wpAnyH_ready (rs := [17]) (by kernel_rfl) (by simp) ?_
        refine AllReadyH.cons (o := _) (nth_at rfl) (fun K hK => ?_) AllReadyH.nil
        go_simp
        with_reducible refine (HGa _ (KeepC.of_below B8) _ px).mono ?_
        rintro e w9 ⟨v9, rfl, o9, b9⟩
        have C9 := C8.trans (b9.mono C8.size)
        have B9 := B8.trans (b9.mono B8.size)
        have k9 := KeepC.of_below b9
        replace pL := pL.keep k9
        replace ps := ps.keep k9
        replace px := px.keep k9
        have pga := o9.view
        clear o9
        try dsimp only
        refine hK.out _ _ ?_ (fun hHeld => ?_)
        · exact SK.out _ C9
        clear hK K
        try simp only [Act.put, List.setIfInBounds_toArray, List.set_cons_zero, List.set_cons_succ]
        refine wpAnyH_ready (rs := [19]) (by kernel_rfl) (by simp) ?_
        refine AllReadyH.cons (o := _) (nth_at rfl) (fun K hK => ?_) AllReadyH.nil
        go_simp
        with_reducible refine (HSa _ _ _ pga ps).mono ?_
        rintro e w10 ⟨rfl, b10⟩
        have C10 := C9.trans (b10.mono C9.size)
        have B10 := B9.trans (b10.mono B9.size)
        have k10 := KeepC.of_below b10
        replace pL := pL.keep k10
        replace px := px.keep k10
        try dsimp only
        refine hK.out _ _ ?_ (fun hHeld => ?_)
        · exact SK.out _ C10
        clear hK K
        try simp only [Act.put, List.setIfInBounds_toArray, List.set_cons_zero, List.set_cons_succ]
        refine wpAnyH_take (i := 20) (oi := _) (v := ?_) (nth_at rfl) (by kernel_rfl) (by kernel_rfl) (by kernel_rfl) (fun _ _ _ h => h) (Or.inl ⟨by rfl, ?_⟩) (by assumption) ?_
        rotate_left 1
        · intro w hSw; (try dsimp only at hSw); (go_simp <;> with_reducible rfl)
        try simp only [Act.put, List.setIfInBounds_toArray, List.set_cons_zero, List.set_cons_succ]
        refine wpAnyH_take (i := 21) (oi := _) (v := ?_) (nth_at rfl) (by kernel_rfl) (by kernel_rfl) (by kernel_rfl) (fun _ _ _ h => h) (Or.inl ⟨by rfl, ?_⟩) (by assumption) ?_
        rotate_left 1
        · intro w hSw; (try dsimp only at hSw); (go_simp <;> with_reducible rfl)
        try simp only [Act.put, List.setIfInBounds_toArray, List.set_cons_zero, List.set_cons_succ]
        refine wpAnyH_take (i := 22) (oi := _) (v := ?_) (nth_at rfl) (by kernel_rfl) (by kernel_rfl) (by kernel_rfl) (fun _ _ _ h => h) (Or.inl ⟨by rfl, ?_⟩) (by assumption) ?_
        rotate_left 1
        · intro w hSw; (try dsimp only at hSw); (go_simp <;> with_reducible rfl)
        try simp only [Act.put, List.setIfInBounds_toArray, List.set_cons_zero, List.set_cons_succ]
        refine wpAnyH_take (i := 23) (oi := _) (v := ?_) (nth_at rfl) (by kernel_rfl) (by kernel_rfl) (by kernel_rfl) (fun _ _ _ h => h) (Or.inl ⟨by rfl, ?_⟩) (by assumption) ?_
        rotate_left 1
        · intro w hSw; (try dsimp only at hSw); (go_simp <;> with_reducible rfl)
        try simp only [Act.put, List.setIfInBounds_toArray, List.set_cons_zero, List.set_cons_succ]
        refine wpAnyH_take (i := 24) (oi := _) (v := ?_) (nth_at rfl) (by kernel_rfl) (by kernel_rfl) (by kernel_rfl) (fun _ _ _ h => h) (Or.inl ⟨by rfl, ?_⟩) (by assumption) ?_
        rotate_left 1
        · intro w hSw; (try dsimp only at hSw); (go_simp <;> with_reducible rfl)
        try simp only [Act.put, List.setIfInBounds_toArray, List.set_cons_zero, List.set_cons_succ]
        refine wpAnyH_take (i := 25) (oi := _) (v := ?_) (nth_at rfl) (by kernel_rfl) (by kernel_rfl) (by kernel_rfl) (fun _ _ _ h => h) (Or.inl ⟨by rfl, ?_⟩) (by assumption) ?_
        rotate_left 1
        · intro w hSw; (try dsimp only at hSw); (go_simp <;> with_reducible rfl)
        try simp only [Act.put, List.setIfInBounds_toArray, List.set_cons_zero, List.set_cons_succ]
        refine wpAnyH_take (i := 26) (oi := _) (v := ?_) (nth_at rfl) (by kernel_rfl) (by kernel_rfl) (by kernel_rfl) (fun _ _ _ h => h) (Or.inl ⟨by rfl, ?_⟩) (by assumption) ?_
        rotate_left 1
        · intro w hSw; (try dsimp only at hSw); (go_simp <;> with_reducible rfl)
        try simp only [Act.put, List.setIfInBounds_toArray, List.set_cons_zero, List.set_cons_succ]
        refine wpAnyH_take (i := 27) (oi := _) (v := ?_) (nth_at rfl) (by kernel_rfl) (by kernel_rfl) (by kernel_rfl) (fun _ _ _ h => h) (Or.inl ⟨by rfl, ?_⟩) (by assumption) ?_
        rotate_left 1
        · intro w hSw; (try dsimp only at hSw); (go_simp <;> with_reducible rfl)
        try simp only [Act.put, List.setIfInBounds_toArray, List.set_cons_zero, List.set_cons_succ]
        refine wpAnyH_take (i := 29) (oi := _) (v := ?_) (nth_at rfl) (by kernel_rfl) (by kernel_rfl) (by kernel_rfl) (fun _ _ _ h => h) (Or.inl ⟨by rfl, ?_⟩) (by assumption) ?_
        rotate_left 1
        · intro w hSw; (try dsimp only at hSw); (go_simp <;> with_reducible rfl)
        try simp only [Act.put, List.setIfInBounds_toArray, List.set_cons_zero, List.set_cons_succ]
        refine wpAnyH_take (i := 30) (oi := _) (v := ?_) (nth_at rfl) (by kernel_rfl) (by kernel_rfl) (by kernel_rfl) (fun _ _ _ h => h) (Or.inl ⟨by rfl, ?_⟩) (by assumption) ?_
        rotate_left 1
        · intro w hSw; (try dsimp only at hSw); (go_simp <;> with_reducible rfl)
        try simp only [Act.put, List.setIfInBounds_toArray, List.set_cons_zero, List.set_cons_succ]
        refine wpAnyH_ready (rs := [28]) (by kernel_rfl) (by simp) ?_
        refine AllReadyH.cons (o := _) (nth_at rfl) (fun K hK => ?_) AllReadyH.nil
        go_simp
        with_reducible refine (HGb _ (KeepC.of_below B10) _ px).mono ?_
        rintro e w11 ⟨v11, rfl, o11, b11⟩
        have C11 := C10.trans (b11.mono C10.size)
        have B11 := B10.trans (b11.mono B10.size)
        have k11 := KeepC.of_below b11
        replace pL := pL.keep k11
        have pgb := o11.view
        clear o11
        try dsimp only
        refine hK.out _ _ ?_ (fun hHeld => ?_)
        · exact SK.out _ C11
        clear hK K
        try simp only [Act.put, List.setIfInBounds_toArray, List.set_cons_zero, List.set_cons_succ]
        refine wpAnyH_ready (rs := [31]) (by kernel_rfl) (by simp) ?_
        refine AllReadyH.cons (o := _) (nth_at rfl) (fun K hK => ?_) AllReadyH.nil
        go_simp
        with_reducible refine (HLb _ (KeepC.of_below B11) _ pL).mono ?_
        rintro e w12 ⟨v12, rfl, o12, b12⟩
        have C12 := C11.trans (b12.mono C11.size)
        have B12 := B11.trans (b12.mono B11.size)
        have k12 := KeepC.of_below b12
        replace pgb := pgb.keep k12
        have plb := o12.view
        clear o12
        try dsimp only
        refine hK.out _ _ ?_ (fun hHeld => ?_)
        · exact SK.out _ C12
        clear hK K
        try simp only [Act.put, List.setIfInBounds_toArray, List.set_cons_zero, List.set_cons_succ]
        refine wpAnyH_ready (rs := [32]) (by kernel_rfl) (by simp) ?_
        refine AllReadyH.cons (o := _) (nth_at rfl) (fun K hK => ?_) AllReadyH.nil
        go_simp
        with_reducible refine (HSb _ _ _ pgb plb).mono ?_
        rintro e w13 ⟨rfl, b13⟩
        have C13 := C12.trans (b13.mono C12.size)
        have B13 := B12.trans (b13.mono B12.size)
        have k13 := KeepC.of_below b13
        try dsimp only
        refine hK.out _ _ ?_ (fun hHeld => ?_)
        · exact SK.out _ C13
        clear hK K
        try simp only [Act.put, List.setIfInBounds_toArray, List.set_cons_zero, List.set_cons_succ]
        refine wpAnyH_take (i := 33) (oi := _) (v := ?_) (nth_at rfl) (by kernel_rfl) (by kernel_rfl) (by kernel_rfl) (fun _ _ _ h => h) (Or.inl ⟨by rfl, ?_⟩) (by assumption) ?_
        rotate_left 1
        · intro w hSw; (try dsimp only at hSw); (go_simp <;> with_reducible rfl)
        try simp only [Act.put, List.setIfInBounds_toArray, List.set_cons_zero, List.set_cons_succ]
        refine wpAnyH_take (i := 34) (oi := _) (v := ?_) (nth_at rfl) (by kernel_rfl) (by kernel_rfl) (by kernel_rfl) (fun _ _ _ h => h) (Or.inl ⟨by rfl, ?_⟩) (by assumption) ?_
        rotate_left 1
        · intro w hSw; (try dsimp only at hSw); (go_simp <;> with_reducible rfl)
        try simp only [Act.put, List.setIfInBounds_toArray, List.set_cons_zero, List.set_cons_succ]
        refine wpAnyH_take (i := 35) (oi := _) (v := ?_) (nth_at rfl) (by kernel_rfl) (by kernel_rfl) (by kernel_rfl) (fun _ _ _ h => h) (Or.inl ⟨by rfl, ?_⟩) (by assumption) ?_
        rotate_left 1
        · intro w hSw; (try dsimp only at hSw); (go_simp <;> with_reducible rfl)
        try simp only [Act.put, List.setIfInBounds_toArray, List.set_cons_zero, List.set_cons_succ]
        refine wpAnyH_done (by kernel_rfl) ?_ _
        refine NoPanic.normal ?_
        go_wp2_with fail
        go_ret
        exact ⟨rfl, B13⟩
      · refine wp_region_noPanic ?_
        refine wp_region_held_drew (S := (fun u => (u.cell? ⟨w.heap.size, 0, none⟩ = some (.int .i64 l1) ∧ u.cell? ⟨w.heap.size, 1, none⟩ = some (.int .u64 S1) ∧ u.cell? ⟨w.heap.size, 2, none⟩ = some (.int .i64 i1)) ∧ u.cell? ⟨w.heap.size + 1, 0, none⟩ = some (.int .i64 l2) ∧ u.cell? ⟨w.heap.size + 1, 1, none⟩ = some (.int .u64 S2) ∧ u.cell? ⟨w.heap.size + 1, 2, none⟩ = some (.int .i64 i2))) (by kernel_rfl) ?_ (fun hHeld => ?_)
        · exact SK.out _ C6.drew
        refine wpAnyH_take (i := 0) (oi := _) (v := ?_) (nth_at rfl) (by kernel_rfl) (by kernel_rfl) (by kernel_rfl) (fun _ _ _ h => h) (Or.inl ⟨by rfl, ?_⟩) (by assumption) ?_
        rotate_left 1
        · intro w hSw; (try dsimp only at hSw); (go_simp <;> with_reducible rfl)
        try simp only [Act.put, List.setIfInBounds_toArray, List.set_cons_zero, List.set_cons_succ]
        refine wpAnyH_take (i := 1) (oi := _) (v := ?_) (nth_at rfl) (by kernel_rfl) (by kernel_rfl) (by kernel_rfl) (fun _ _ _ h => h) (Or.inl ⟨by rfl, ?_⟩) (by assumption) ?_
        rotate_left 1
        · intro w hSw; (try dsimp only at hSw); (go_simp <;> with_reducible rfl)
        try simp only [Act.put, List.setIfInBounds_toArray, List.set_cons_zero, List.set_cons_succ]
        refine wpAnyH_take (i := 2) (oi := _) (v := ?_) (nth_at rfl) (by kernel_rfl) (by kernel_rfl) (by kernel_rfl) (fun _ _ _ h => h) (Or.inl ⟨by rfl, ?_⟩) (by assumption) ?_
        rotate_left 1
        · intro w hSw; (try dsimp only at hSw); (go_simp <;> with_reducible rfl)
        try simp only [Act.put, List.setIfInBounds_toArray, List.set_cons_zero, List.set_cons_succ]
        refine wpAnyH_take (i := 3) (oi := _) (v := ?_) (nth_at rfl) (by kernel_rfl) (by kernel_rfl) (by kernel_rfl) (fun _ _ _ h => h) (Or.inl ⟨by rfl, ?_⟩) (by assumption) ?_
        rotate_left 1
        · intro w hSw; (try dsimp only at hSw); (go_simp <;> with_reducible rfl)
        try simp only [Act.put, List.setIfInBounds_toArray, List.set_cons_zero, List.set_cons_succ]
        refine wpAnyH_take (i := 4) (oi := _) (v := ?_) (nth_at rfl) (by kernel_rfl) (by kernel_rfl) (by kernel_rfl) (fun _ _ _ h => h) (Or.inl ⟨by rfl, ?_⟩) (by assumption) ?_
        rotate_left 1
        · intro w hSw; (try dsimp only at hSw); (go_simp <;> with_reducible rfl)
        try simp only [Act.put, List.setIfInBounds_toArray, List.set_cons_zero, List.set_cons_succ]
        refine wpAnyH_take (i := 5) (oi := _) (v := ?_) (nth_at rfl) (by kernel_rfl) (by kernel_rfl) (by kernel_rfl) (fun _ _ _ h => h) (Or.inl ⟨by rfl, ?_⟩) (by assumption) ?_
        rotate_left 1
        · intro w hSw; (try dsimp only at hSw); (go_simp <;> with_reducible rfl)
        try simp only [Act.put, List.setIfInBounds_toArray, List.set_cons_zero, List.set_cons_succ]
        refine wpAnyH_take (i := 6) (oi := _) (v := ?_) (nth_at rfl) (by kernel_rfl) (by kernel_rfl) (by kernel_rfl) (fun _ _ _ h => h) (Or.inl ⟨by rfl, ?_⟩) (by assumption) ?_
        rotate_left 1
        · intro w hSw; (try dsimp only at hSw); (go_simp <;> with_reducible rfl)
        try simp only [Act.put, List.setIfInBounds_toArray, List.set_cons_zero, List.set_cons_succ]
        refine wpAnyH_take (i := 7) (oi := _) (v := ?_) (nth_at rfl) (by kernel_rfl) (by kernel_rfl) (by kernel_rfl) (fun _ _ _ h => h) (Or.inl ⟨by rfl, ?_⟩) (by assumption) ?_
        rotate_left 1
        · intro w hSw; (try dsimp only at hSw); (go_simp <;> with_reducible rfl)
        try simp only [Act.put, List.setIfInBounds_toArray, List.set_cons_zero, List.set_cons_succ]
        refine wpAnyH_ready (rs := [8]) (by kernel_rfl) (by simp) ?_
        refine AllReadyH.cons (o := _) (nth_at rfl) (fun K hK => ?_) AllReadyH.nil
        go_simp
        with_reducible refine (HSw _ _ _ (py.keep (KeepC.of_below (Below.refl w6.heap.size w6).drew)) (pL.keep (KeepC.of_below (Below.refl w6.heap.size w6).drew))).mono ?_
        rintro e w7 ⟨rfl, b7'⟩
        have b7 := (Below.refl w6.heap.size w6).drew.trans b7'
        have C7 := C6.trans (b7.mono C6.size)
        have B7 := B6.trans (b7.mono B6.size)
        have k7 := KeepC.of_below b7
        replace pL := pL.keep k7
        replace ps := ps.keep k7
        replace px := px.keep k7
        try dsimp only
        refine hK.out _ _ ?_ (fun hHeld => ?_)
        · exact SK.out _ C7
        clear hK K
        try simp only [Act.put, List.setIfInBounds_toArray, List.set_cons_zero, List.set_cons_succ]
        refine wpAnyH_take (i := 9) (oi := _) (v := ?_) (nth_at rfl) (by kernel_rfl) (by kernel_rfl) (by kernel_rfl) (fun _ _ _ h => h) (Or.inl ⟨by rfl, ?_⟩) (by assumption) ?_
        rotate_left 1
        · intro w hSw; (try dsimp only at hSw); (go_simp <;> with_reducible rfl)
        try simp only [Act.put, List.setIfInBounds_toArray, List.set_cons_zero, List.set_cons_succ]
        refine wpAnyH_take (i := 10) (oi := _) (v := ?_) (nth_at rfl) (by kernel_rfl) (by kernel_rfl) (by kernel_rfl) (fun _ _ _ h => h) (Or.inl ⟨by rfl, ?_⟩) (by assumption) ?_
        rotate_left 1
        · intro w hSw; (try dsimp only at hSw); (go_simp <;> with_reducible rfl)
        try simp only [Act.put, List.setIfInBounds_toArray, List.set_cons_zero, List.set_cons_succ]
        refine wpAnyH_take (i := 11) (oi := _) (v := ?_) (nth_at rfl) (by kernel_rfl) (by kernel_rfl) (by kernel_rfl) (fun _ _ _ h => h) (Or.inl ⟨by rfl, ?_⟩) (by assumption) ?_
        rotate_left 1
        · intro w hSw; (try dsimp only at hSw); (go_simp <;> with_reducible rfl)
        try simp only [Act.put, List.setIfInBounds_toArray, List.set_cons_zero, List.set_cons_succ]
        refine wpAnyH_ready (rs := [12]) (by kernel_rfl) (by simp) ?_
        refine AllReadyH.cons (o := _) (nth_at rfl) (fun K hK => ?_) AllReadyH.nil
        go_simp
        with_reducible refine (HR _ (KeepC.of_below B7) _ px).mono ?_
        rintro e w8 ⟨rfl, b8⟩
        have C8 := C7.trans (b8.mono C7.size)
        have B8 := B7.trans (b8.mono B7.size)
        have k8 := KeepC.of_below b8
        replace pL := pL.keep k8
        replace ps := ps.keep k8
        replace px := px.keep k8
        try dsimp only
        refine hK.out _ _ ?_ (fun hHeld => ?_)
        · exact SK.out _ C8
        clear hK K
        try simp only [Act.put, List.setIfInBounds_toArray, List.set_cons_zero, List.set_cons_succ]
        refine wpAnyH_take (i := 13) (oi := _) (v := ?_) (nth_at rfl) (by kernel_rfl) (by kernel_rfl) (by kernel_rfl) (fun _ _ _ h => h) (Or.inl ⟨by rfl, ?_⟩) (by assumption) ?_
        rotate_left 1
        · intro w hSw; (try dsimp only at hSw); (go_simp <;> with_reducible rfl)
        try simp only [Act.put, List.setIfInBounds_toArray, List.set_cons_zero, List.set_cons_succ]
        refine wpAnyH_take (i := 14) (oi := _) (v := ?_) (nth_at rfl) (by kernel_rfl) (by kernel_rfl) (by kernel_rfl) (fun _ _ _ h => h) (Or.inl ⟨by rfl, ?_⟩) (by assumption) ?_
        rotate_left 1
        · intro w hSw; (try dsimp only at hSw); (go_simp <;> with_reducible rfl)
        try simp only [Act.put, List.setIfInBounds_toArray, List.set_cons_zero, List.set_cons_succ]
        refine wpAnyH_take (i := 15) (oi := _) (v := ?_) (nth_at rfl) (by kernel_rfl) (by kernel_rfl) (by kernel_rfl) (fun _ _ _ h => h) (Or.inl ⟨by rfl, ?_⟩) (by assumption) ?_
        rotate_left 1
        · intro w hSw; (try dsimp only at hSw); (go_simp <;> with_reducible rfl)
        try simp only [Act.put, List.setIfInBounds_toArray, List.set_cons_zero, List.set_cons_succ]
        refine wpAnyH_take (i := 16) (oi := _) (v := ?_) (nth_at rfl) (by kernel_rfl) (by kernel_rfl) (by kernel_rfl) (fun _ _ _ h => h) (Or.inl ⟨by rfl, ?_⟩) (by assumption) ?_
        rotate_left 1
        · intro w hSw; (try dsimp only at hSw); (go_simp <;> with_reducible rfl)
        try simp only [Act.put, List.setIfInBounds_toArray, List.set_cons_zero, List.set_cons_succ]
        refine wpAnyH_take (i := 18) (oi := _) (v := ?_) (nth_at rfl) (by kernel_rfl) (by kernel_rfl) (by kernel_rfl) (fun _ _ _ h => h) (Or.inl ⟨by rfl, ?_⟩) (by assumption) ?_
        rotate_left 1
        · intro w hSw; (try dsimp only at hSw); (go_simp <;> with_reducible rfl)
        try simp only [Act.put, List.setIfInBounds_toArray, List.set_cons_zero, List.set_cons_succ]
        refine wpAnyH_ready (rs := [17]) (by kernel_rfl) (by simp) ?_
        refine AllReadyH.cons (o := _) (nth_at rfl) (fun K hK => ?_) AllReadyH.nil
        go_simp
        with_reducible refine (HGa _ (KeepC.of_below B8) _ px).mono ?_
        rintro e w9 ⟨v9, rfl, o9, b9⟩
        have C9 := C8.trans (b9.mono C8.size)
        have B9 := B8.trans (b9.mono B8.size)
        have k9 := KeepC.of_below b9
        replace pL := pL.keep k9
        replace ps := ps.keep k9
        replace px := px.keep k9
        have pga := o9.view
        clear o9
        try dsimp only
        refine hK.out _ _ ?_ (fun hHeld => ?_)
        · exact SK.out _ C9
        clear hK K
        try simp only [Act.put, List.setIfInBounds_toArray, List.set_cons_zero, List.set_cons_succ]
        refine wpAnyH_ready (rs := [19]) (by kernel_rfl) (by simp) ?_
        refine AllReadyH.cons (o := _) (nth_at rfl) (fun K hK => ?_) AllReadyH.nil
        go_simp
        with_reducible refine (HSa _ _ _ pga ps).mono ?_
        rintro e w10 ⟨rfl, b10⟩
        have C10 := C9.trans (b10.mono C9.size)
        have B10 := B9.trans (b10.mono B9.size)
        have k10 := KeepC.of_below b10
        replace pL := pL.keep k10
        replace px := px.keep k10
        try dsimp only
        refine hK.out _ _ ?_ (fun hHeld => ?_)
        · exact SK.out _ C10
        clear hK K
        try simp only [Act.put, List.setIfInBounds_toArray, List.set_cons_zero, List.set_cons_succ]
        refine wpAnyH_take (i := 20) (oi := _) (v := ?_) (nth_at rfl) (by kernel_rfl) (by kernel_rfl) (by kernel_rfl) (fun _ _ _ h => h) (Or.inl ⟨by rfl, ?_⟩) (by assumption) ?_
        rotate_left 1
        · intro w hSw; (try dsimp only at hSw); (go_simp <;> with_reducible rfl)
        try simp only [Act.put, List.setIfInBounds_toArray, List.set_cons_zero, List.set_cons_succ]
        refine wpAnyH_take (i := 21) (oi := _) (v := ?_) (nth_at rfl) (by kernel_rfl) (by kernel_rfl) (by kernel_rfl) (fun _ _ _ h => h) (Or.inl ⟨by rfl, ?_⟩) (by assumption) ?_
        rotate_left 1
        · intro w hSw; (try dsimp only at hSw); (go_simp <;> with_reducible rfl)
        try simp only [Act.put, List.setIfInBounds_toArray, List.set_cons_zero, List.set_cons_succ]
        refine wpAnyH_take (i := 22) (oi := _) (v := ?_) (nth_at rfl) (by kernel_rfl) (by kernel_rfl) (by kernel_rfl) (fun _ _ _ h => h) (Or.inl ⟨by rfl, ?_⟩) (by assumption) ?_
        rotate_left 1
        · intro w hSw; (try dsimp only at hSw); (go_simp <;> with_reducible rfl)
        try simp only [Act.put, List.setIfInBounds_toArray, List.set_cons_zero, List.set_cons_succ]
        refine wpAnyH_take (i := 23) (oi := _) (v := ?_) (nth_at rfl) (by kernel_rfl) (by kernel_rfl) (by kernel_rfl) (fun _ _ _ h => h) (Or.inl ⟨by rfl, ?_⟩) (by assumption) ?_
        rotate_left 1
        · intro w hSw; (try dsimp only at hSw); (go_simp <;> with_reducible rfl)
        try simp only [Act.put, List.setIfInBounds_toArray, List.set_cons_zero, List.set_cons_succ]
        refine wpAnyH_take (i := 24) (oi := _) (v := ?_) (nth_at rfl) (by kernel_rfl) (by kernel_rfl) (by kernel_rfl) (fun _ _ _ h => h) (Or.inl ⟨by rfl, ?_⟩) (by assumption) ?_
        rotate_left 1
        · intro w hSw; (try dsimp only at hSw); (go_simp <;> with_reducible rfl)
        try simp only [Act.put, List.setIfInBounds_toArray, List.set_cons_zero, List.set_cons_succ]
        refine wpAnyH_take (i := 25) (oi := _) (v := ?_) (nth_at rfl) (by kernel_rfl) (by kernel_rfl) (by kernel_rfl) (fun _ _ _ h => h) (Or.inl ⟨by rfl, ?_⟩) (by assumption) ?_
        rotate_left 1
        · intro w hSw; (try dsimp only at hSw); (go_simp <;> with_reducible rfl)
        try simp only [Act.put, List.setIfInBounds_toArray, List.set_cons_zero, List.set_cons_succ]
        refine wpAnyH_take (i := 26) (oi := _) (v := ?_) (nth_at rfl) (by kernel_rfl) (by kernel_rfl) (by kernel_rfl) (fun _ _ _ h => h) (Or.inl ⟨by rfl, ?_⟩) (by assumption) ?_
        rotate_left 1
        · intro w hSw; (try dsimp only at hSw); (go_simp <;> with_reducible rfl)
        try simp only [Act.put, List.setIfInBounds_toArray, List.set_cons_zero, List.set_cons_succ]
        refine wpAnyH_take (i := 27) (oi := _) (v := ?_) (nth_at rfl) (by kernel_rfl) (by kernel_rfl) (by kernel_rfl) (fun _ _ _ h => h) (Or.inl ⟨by rfl, ?_⟩) (by assumption) ?_
        rotate_left 1
        · intro w hSw; (try dsimp only at hSw); (go_simp <;> with_reducible rfl)
        try simp only [Act.put, List.setIfInBounds_toArray, List.set_cons_zero, List.set_cons_succ]
        refine wpAnyH_take (i := 29) (oi := _) (v := ?_) (nth_at rfl) (by kernel_rfl) (by kernel_rfl) (by kernel_rfl) (fun _ _ _ h => h) (Or.inl ⟨by rfl, ?_⟩) (by assumption) ?_
        rotate_left 1
        · intro w hSw; (try dsimp only at hSw); (go_simp <;> with_reducible rfl)
        try simp only [Act.put, List.setIfInBounds_toArray, List.set_cons_zero, List.set_cons_succ]
        refine wpAnyH_take (i := 30) (oi := _) (v := ?_) (nth_at rfl) (by kernel_rfl) (by kernel_rfl) (by kernel_rfl) (fun _ _ _ h => h) (Or.inl ⟨by rfl, ?_⟩) (by assumption) ?_
        rotate_left 1
        · intro w hSw; (try dsimp only at hSw); (go_simp <;> with_reducible rfl)
        try simp only [Act.put, List.setIfInBounds_toArray, List.set_cons_zero, List.set_cons_succ]
        refine wpAnyH_ready (rs := [28]) (by kernel_rfl) (by simp) ?_
        refine AllReadyH.cons (o := _) (nth_at rfl) (fun K hK => ?_) AllReadyH.nil
        go_simp
        with_reducible refine (HGb _ (KeepC.of_below B10) _ px).mono ?_
        rintro e w11 ⟨v11, rfl, o11, b11⟩
        have C11 := C10.trans (b11.mono C10.size)
        have B11 := B10.trans (b11.mono B10.size)
        have k11 := KeepC.of_below b11
        replace pL := pL.keep k11
        have pgb := o11.view
        clear o11
        try dsimp only
        refine hK.out _ _ ?_ (fun hHeld => ?_)
        · exact SK.out _ C11
        clear hK K
        try simp only [Act.put, List.setIfInBounds_toArray, List.set_cons_zero, List.set_cons_succ]
        refine wpAnyH_ready (rs := [31]) (by kernel_rfl) (by simp) ?_
        refine AllReadyH.cons (o := _) (nth_at rfl) (fun K hK => ?_) AllReadyH.nil
        go_simp
        with_reducible refine (HLb _ (KeepC.of_below B11) _ pL).mono ?_
        rintro e w12 ⟨v12, rfl, o12, b12⟩
        have C12 := C11.trans (b12.mono C11.size)
        have B12 := B11.trans (b12.mono B11.size)
        have k12 := KeepC.of_below b12
        replace pgb := pgb.keep k12
        have plb := o12.view
        clear o12
        try dsimp only
        refine hK.out _ _ ?_ (fun hHeld => ?_)
        · exact SK.out _ C12
        clear hK K
        try simp only [Act.put, List.setIfInBounds_toArray, List.set_cons_zero, List.set_cons_succ]
        refine wpAnyH_ready (rs := [32]) (by kernel_rfl) (by simp) ?_
        refine AllReadyH.cons (o := _) (nth_at rfl) (fun K hK => ?_) AllReadyH.nil
        go_simp
        with_reducible refine (HSb _ _ _ pgb plb).mono ?_
        rintro e w13 ⟨rfl, b13⟩
        have C13 := C12.trans (b13.mono C12.size)
        have B13 := B12.trans (b13.mono B12.size)
        have k13 := KeepC.of_below b13
        try dsimp only
        refine hK.out _ _ ?_ (fun hHeld => ?_)
        · exact SK.out _ C13
        clear hK K
        try simp only [Act.put, List.setIfInBounds_toArray, List.set_cons_zero, List.set_cons_succ]
        refine wpAnyH_take (i := 33) (oi := _) (v := ?_) (nth_at rfl) (by kernel_rfl) (by kernel_rfl) (by kernel_rfl) (fun _ _ _ h => h) (Or.inl ⟨by rfl, ?_⟩) (by assumption) ?_
        rotate_left 1
        · intro w hSw; (try dsimp only at hSw); (go_simp <;> with_reducible rfl)
        try simp only [Act.put, List.setIfInBounds_toArray, List.set_cons_zero, List.set_cons_succ]
        refine wpAnyH_take (i := 34) (oi := _) (v := ?_) (nth_at rfl) (by kernel_rfl) (by kernel_rfl) (by kernel_rfl) (fun _ _ _ h => h) (Or.inl ⟨by rfl, ?_⟩) (by assumption) ?_
        rotate_left 1
        · intro w hSw; (try dsimp only at hSw); (go_simp <;> with_reducible rfl)
        try simp only [Act.put, List.setIfInBounds_toArray, List.set_cons_zero, List.set_cons_succ]
        refine wpAnyH_take (i := 35) (oi := _) (v := ?_) (nth_at rfl) (by kernel_rfl) (by kernel_rfl) (by kernel_rfl) (fun _ _ _ h => h) (Or.inl ⟨by rfl, ?_⟩) (by assumption) ?_
        rotate_left 1
        · intro w hSw; (try dsimp only at hSw); (go_simp <;> with_reducible rfl)
        try simp only [Act.put, List.setIfInBounds_toArray, List.set_cons_zero, List.set_cons_succ]
        refine wpAnyH_done (by kernel_rfl) ?_ _
        refine NoPanic.normal ?_
        go_wp2_with fail
        go_ret
        exact ⟨rfl, B13⟩
      · refine wp_region_noPanic ?_
        refine wp_region_held_drew (S := (fun u => (u.cell? ⟨w.heap.size, 0, none⟩ = some (.int .i64 l1) ∧ u.cell? ⟨w.heap.size, 1, none⟩ = some (.int .u64 S1) ∧ u.cell? ⟨w.heap.size, 2, none⟩ = some (.int .i64 i1)) ∧ u.cell? ⟨w.heap.size + 1, 0, none⟩ = some (.int .i64 l2) ∧ u.cell? ⟨w.heap.size + 1, 1, none⟩ = some (.int .u64 S2) ∧ u.cell? ⟨w.heap.size + 1, 2, none⟩ = some (.int .i64 i2))) (by kernel_rfl) ?_ (fun hHeld => ?_)
        · exact SK.out _ C6.drew
        refine wpAnyH_take (i := 0) (oi := _) (v := ?_) (nth_at rfl) (by kernel_rfl) (by kernel_rfl) (by kernel_rfl) (fun _ _ _ h => h) (Or.inl ⟨by rfl, ?_⟩) (by assumption) ?_
        rotate_left 1
        · intro w hSw; (try dsimp only at hSw); (go_simp <;> with_reducible rfl)
        try simp only [Act.put, List.setIfInBounds_toArray, List.set_cons_zero, List.set_cons_succ]
        refine wpAnyH_take (i := 1) (oi := _) (v := ?_) (nth_at rfl) (by kernel_rfl) (by kernel_rfl) (by kernel_rfl) (fun _ _ _ h => h) (Or.inl ⟨by rfl, ?_⟩) (by assumption) ?_
        rotate_left 1
        · intro w hSw; (try dsimp only at hSw); (go_simp <;> with_reducible rfl)
        try simp only [Act.put, List.setIfInBounds_toArray, List.set_cons_zero, List.set_cons_succ]
        refine wpAnyH_take (i := 2) (oi := _) (v := ?_) (nth_at rfl) (by kernel_rfl) (by kernel_rfl) (by kernel_rfl) (fun _ _ _ h => h) (Or.inl ⟨by rfl, ?_⟩) (by assumption) ?_
        rotate_left 1
        · intro w hSw; (try dsimp only at hSw); (go_simp <;> with_reducible rfl)
        try simp only [Act.put, List.setIfInBounds_toArray, List.set_cons_zero, List.set_cons_succ]
        refine wpAnyH_take (i := 3) (oi := _) (v := ?_) (nth_at rfl) (by kernel_rfl) (by kernel_rfl) (by kernel_rfl) (fun _ _ _ h => h) (Or.inl ⟨by rfl, ?_⟩) (by assumption) ?_
        rotate_left 1
        · intro w hSw; (try dsimp only at hSw); (go_simp <;> with_reducible rfl)
        try simp only [Act.put, List.setIfInBounds_toArray, List.set_cons_zero, List.set_cons_succ]
        refine wpAnyH_take (i := 4) (oi := _) (v := ?_) (nth_at rfl) (by kernel_rfl) (by kernel_rfl) (by kernel_rfl) (fun _ _ _ h => h) (Or.inl ⟨by rfl, ?_⟩) (by assumption) ?_
        rotate_left 1
        · intro w hSw; (try dsimp only at hSw); (go_simp <;> with_reducible rfl)
        try simp only [Act.put, List.setIfInBounds_toArray, List.set_cons_zero, List.set_cons_succ]
        refine wpAnyH_take (i := 5) (oi := _) (v := ?_) (nth_at rfl) (by kernel_rfl) (by kernel_rfl) (by kernel_rfl) (fun _ _ _ h => h) (Or.inl ⟨by rfl, ?_⟩) (by assumption) ?_
        rotate_left 1
        · intro w hSw; (try dsimp only at hSw); (go_simp <;> with_reducible rfl)
        try simp only [Act.put, List.setIfInBounds_toArray, List.set_cons_zero, List.set_cons_succ]
        refine wpAnyH_take (i := 6) (oi := _) (v := ?_) (nth_at rfl) (by kernel_rfl) (by kernel_rfl) (by kernel_rfl) (fun _ _ _ h => h) (Or.inl ⟨by rfl, ?_⟩) (by assumption) ?_
        rotate_left 1
        · intro w hSw; (try dsimp only at hSw); (go_simp <;> with_reducible rfl)
        try simp only [Act.put, List.setIfInBounds_toArray, List.set_cons_zero, List.set_cons_succ]
        refine wpAnyH_take (i := 7) (oi := _) (v := ?_) (nth_at rfl) (by kernel_rfl) (by kernel_rfl) (by kernel_rfl) (fun _ _ _ h => h) (Or.inl ⟨by rfl, ?_⟩) (by assumption) ?_
        rotate_left 1
        · intro w hSw; (try dsimp only at hSw); (go_simp <;> with_reducible rfl)
        try simp only [Act.put, List.setIfInBounds_toArray, List.set_cons_zero, List.set_cons_succ]
        refine wpAnyH_ready (rs := [8]) (by kernel_rfl) (by simp) ?_
        refine AllReadyH.cons (o := _) (nth_at rfl) (fun K hK => ?_) AllReadyH.nil
        go_simp
        with_reducible refine (HSw _ _ _ (py.keep (KeepC.of_below (Below.refl w6.heap.size w6).drew)) (pL.keep (KeepC.of_below (Below.refl w6.heap.size w6).drew))).mono ?_
        rintro e w7 ⟨rfl, b7'⟩
        have b7 := (Below.refl w6.heap.size w6).drew.trans b7'
        have C7 := C6.trans (b7.mono C6.size)
        have B7 := B6.trans (b7.mono B6.size)
        have k7 := KeepC.of_below b7
        replace pL := pL.keep k7
        replace ps := ps.keep k7
        replace px := px.keep k7
        try dsimp only
        refine hK.out _ _ ?_ (fun hHeld => ?_)
        · exact SK.out _ C7
        clear hK K
        try simp only [Act.put, List.setIfInBounds_toArray, List.set_cons_zero, List.set_cons_succ]
        refine wpAnyH_take (i := 9) (oi := _) (v := ?_) (nth_at rfl) (by kernel_rfl) (by kernel_rfl) (by kernel_rfl) (fun _ _ _ h => h) (Or.inl ⟨by rfl, ?_⟩) (by assumption) ?_
        rotate_left 1
        · intro w hSw; (try dsimp only at hSw); (go_simp <;> with_reducible rfl)
        try simp only [Act.put, List.setIfInBounds_toArray, List.set_cons_zero, List.set_cons_succ]
        refine wpAnyH_take (i := 10) (oi := _) (v := ?_) (nth_at rfl) (by kernel_rfl) (by kernel_rfl) (by kernel_rfl) (fun _ _ _ h => h) (Or.inl ⟨by rfl, ?_⟩) (by assumption) ?_
        rotate_left 1
        · intro w hSw; (try dsimp only at hSw); (go_simp <;> with_reducible rfl)
        try simp only [Act.put, List.setIfInBounds_toArray, List.set_cons_zero, List.set_cons_succ]
        refine wpAnyH_take (i := 11) (oi := _) (v := ?_) (nth_at rfl) (by kernel_rfl) (by kernel_rfl) (by kernel_rfl) (fun _ _ _ h => h) (Or.inl ⟨by rfl, ?_⟩) (by assumption) ?_
        rotate_left 1
        · intro w hSw; (try dsimp only at hSw); (go_simp <;> with_reducible rfl)
        try simp only [Act.put, List.setIfInBounds_toArray, List.set_cons_zero, List.set_cons_succ]
        refine wpAnyH_ready (rs := [12]) (by kernel_rfl) (by simp) ?_
        refine AllReadyH.cons (o := _) (nth_at rfl) (fun K hK => ?_) AllReadyH.nil
        go_simp
        with_reducible refine (HR _ (KeepC.of_below B7) _ px).mono ?_
        rintro e w8 ⟨rfl, b8⟩
        have C8 := C7.trans (b8.mono C7.size)
        have B8 := B7.trans (b8.mono B7.size)
        have k8 := KeepC.of_below b8
        replace pL := pL.keep k8
        replace ps := ps.keep k8
        replace px := px.keep k8
        try dsimp only
        refine hK.out _ _ ?_ (fun hHeld => ?_)
        · exact SK.out _ C8
        clear hK K
        try simp only [Act.put, List.setIfInBounds_toArray, List.set_cons_zero, List.set_cons_succ]
        refine wpAnyH_take (i := 13) (oi := _) (v := ?_) (nth_at rfl) (by kernel_rfl) (by kernel_rfl) (by kernel_rfl) (fun _ _ _ h => h) (Or.inl ⟨by rfl, ?_⟩) (by assumption) ?_
        rotate_left 1
        · intro w hSw; (try dsimp only at hSw); (go_simp <;> with_reducible rfl)
        try simp only [Act.put, List.setIfInBounds_toArray, List.set_cons_zero, List.set_cons_succ]
        refine wpAnyH_take (i := 14) (oi := _) (v := ?_) (nth_at rfl) (by kernel_rfl) (by kernel_rfl) (by kernel_rfl) (fun _ _ _ h => h) (Or.inl ⟨by rfl, ?_⟩) (by assumption) ?_
        rotate_left 1
        · intro w hSw; (try dsimp only at hSw); (go_simp <;> with_reducible rfl)
        try simp only [Act.put, List.setIfInBounds_toArray, List.set_cons_zero, List.set_cons_succ]
        refine wpAnyH_take (i := 15) (oi := _) (v := ?_) (nth_at rfl) (by kernel_rfl) (by kernel_rfl) (by kernel_rfl) (fun _ _ _ h => h) (Or.inl ⟨by rfl, ?_⟩) (by assumption) ?_
        rotate_left 1
        · intro w hSw; (try dsimp only at hSw); (go_simp <;> with_reducible rfl)
        try simp only [Act.put, List.setIfInBounds_toArray, List.set_cons_zero, List.set_cons_succ]
        refine wpAnyH_take (i := 16) (oi := _) (v := ?_) (nth_at rfl) (by kernel_rfl) (by kernel_rfl) (by kernel_rfl) (fun _ _ _ h => h) (Or.inl ⟨by rfl, ?_⟩) (by assumption) ?_
        rotate_left 1
        · intro w hSw; (try dsimp only at hSw); (go_simp <;> with_reducible rfl)
        try simp only [Act.put, List.setIfInBounds_toArray, List.set_cons_zero, List.set_cons_succ]
        refine wpAnyH_take (i := 18) (oi := _) (v := ?_) (nth_at rfl) (by kernel_rfl) (by kernel_rfl) (by kernel_rfl) (fun _ _ _ h => h) (Or.inl ⟨by rfl, ?_⟩) (by assumption) ?_
        rotate_left 1
        · intro w hSw; (try dsimp only at hSw); (go_simp <;> with_reducible rfl)
        try simp only [Act.put, List.setIfInBounds_toArray, List.set_cons_zero, List.set_cons_succ]
        refine wpAnyH_ready (rs := [17]) (by kernel_rfl) (by simp) ?_
        refine AllReadyH.cons (o := _) (nth_at rfl) (fun K hK => ?_) AllReadyH.nil
        go_simp
        with_reducible refine (HGa _ (KeepC.of_below B8) _ px).mono ?_
        rintro e w9 ⟨v9, rfl, o9, b9⟩
        have C9 := C8.trans (b9.mono C8.size)
        have B9 := B8.trans (b9.mono B8.size)
        have k9 := KeepC.of_below b9
        replace pL := pL.keep k9
        replace ps := ps.keep k9
        replace px := px.keep k9
        have pga := o9.view
        clear o9
        try dsimp only
        refine hK.out _ _ ?_ (fun hHeld => ?_)
        · exact SK.out _ C9
        clear hK K
        try simp only [Act.put, List.setIfInBounds_toArray, List.set_cons_zero, List.set_cons_succ]
        refine wpAnyH_ready (rs := [19]) (by kernel_rfl) (by simp) ?_
        refine AllReadyH.cons (o := _) (nth_at rfl) (fun K hK => ?_) AllReadyH.nil
        go_simp
        with_reducible refine (HSa _ _ _ pga ps).mono ?_
        rintro e w10 ⟨rfl, b10⟩
        have C10 := C9.trans (b10.mono C9.size)
        have B10 := B9.trans (b10.mono B9.size)
        have k10 := KeepC.of_below b10
        replace pL := pL.keep k10
        replace px := px.keep k10
        try dsimp only
        refine hK.out _ _ ?_ (fun hHeld => ?_)
        · exact SK.out _ C10
        clear hK K
        try simp only [Act.put, List.setIfInBounds_toArray, List.set_cons_zero, List.set_cons_succ]
        refine wpAnyH_take (i := 20) (oi := _) (v := ?_) (nth_at rfl) (by kernel_rfl) (by kernel_rfl) (by kernel_rfl) (fun _ _ _ h => h) (Or.inl ⟨by rfl, ?_⟩) (by assumption) ?_
        rotate_left 1
        · intro w hSw; (try dsimp only at hSw); (go_simp <;> with_reducible rfl)
        try simp only [Act.put, List.setIfInBounds_toArray, List.set_cons_zero, List.set_cons_succ]
        refine wpAnyH_take (i := 21) (oi := _) (v := ?_) (nth_at rfl) (by kernel_rfl) (by kernel_rfl) (by kernel_rfl) (fun _ _ _ h => h) (Or.inl ⟨by rfl, ?_⟩) (by assumption) ?_
        rotate_left 1
        · intro w hSw; (try dsimp only at hSw); (go_simp <;> with_reducible rfl)
        try simp only [Act.put, List.setIfInBounds_toArray, List.set_cons_zero, List.set_cons_succ]
        refine wpAnyH_take (i := 22) (oi := _) (v := ?_) (nth_at rfl) (by kernel_rfl) (by kernel_rfl) (by kernel_rfl) (fun _ _ _ h => h) (Or.inl ⟨by rfl, ?_⟩) (by assumption) ?_
        rotate_left 1
        · intro w hSw; (try dsimp only at hSw); (go_simp <;> with_reducible rfl)
        try simp only [Act.put, List.setIfInBounds_toArray, List.set_cons_zero, List.set_cons_succ]
        refine wpAnyH_take (i := 23) (oi := _) (v := ?_) (nth_at rfl) (by kernel_rfl) (by kernel_rfl) (by kernel_rfl) (fun _ _ _ h => h) (Or.inl ⟨by rfl, ?_⟩) (by assumption) ?_
        rotate_left 1
        · intro w hSw; (try dsimp only at hSw); (go_simp <;> with_reducible rfl)
        try simp only [Act.put, List.setIfInBounds_toArray, List.set_cons_zero, List.set_cons_succ]
        refine wpAnyH_take (i := 24) (oi := _) (v := ?_) (nth_at rfl) (by kernel_rfl) (by kernel_rfl) (by kernel_rfl) (fun _ _ _ h => h) (Or.inl ⟨by rfl, ?_⟩) (by assumption) ?_
        rotate_left 1
        · intro w hSw; (try dsimp only at hSw); (go_simp <;> with_reducible rfl)
        try simp only [Act.put, List.setIfInBounds_toArray, List.set_cons_zero, List.set_cons_succ]
        refine wpAnyH_take (i := 25) (oi := _) (v := ?_) (nth_at rfl) (by kernel_rfl) (by kernel_rfl) (by kernel_rfl) (fun _ _ _ h => h) (Or.inl ⟨by rfl, ?_⟩) (by assumption) ?_
        rotate_left 1
        · intro w hSw; (try dsimp only at hSw); (go_simp <;> with_reducible rfl)
        try simp only [Act.put, List.setIfInBounds_toArray, List.set_cons_zero, List.set_cons_succ]
        refine wpAnyH_take (i := 26) (oi := _) (v := ?_) (nth_at rfl) (by kernel_rfl) (by kernel_rfl) (by kernel_rfl) (fun _ _ _ h => h) (Or.inl ⟨by rfl, ?_⟩) (by assumption) ?_
        rotate_left 1
        · intro w hSw; (try dsimp only at hSw); (go_simp <;> with_reducible rfl)
        try simp only [Act.put, List.setIfInBounds_toArray, List.set_cons_zero, List.set_cons_succ]
        refine wpAnyH_take (i := 27) (oi := _) (v := ?_) (nth_at rfl) (by kernel_rfl) (by kernel_rfl) (by kernel_rfl) (fun _ _ _ h => h) (Or.inl ⟨by rfl, ?_⟩) (by assumption) ?_
        rotate_left 1
        · intro w hSw; (try dsimp only at hSw); (go_simp <;> with_reducible rfl)
        try simp only [Act.put, List.setIfInBounds_toArray, List.set_cons_zero, List.set_cons_succ]
        refine wpAnyH_take (i := 29) (oi := _) (v := ?_) (nth_at rfl) (by kernel_rfl) (by kernel_rfl) (by kernel_rfl) (fun _ _ _ h => h) (Or.inl ⟨by rfl, ?_⟩) (by assumption) ?_
        rotate_left 1
        · intro w hSw; (try dsimp only at hSw); (go_simp <;> with_reducible rfl)
        try simp only [Act.put, List.setIfInBounds_toArray, List.set_cons_zero, List.set_cons_succ]
        refine wpAnyH_take (i := 30) (oi := _) (v := ?_) (nth_at rfl) (by kernel_rfl) (by kernel_rfl) (by kernel_rfl) (fun _ _ _ h => h) (Or.inl ⟨by rfl, ?_⟩) (by assumption) ?_
        rotate_left 1
        · intro w hSw; (try dsimp only at hSw); (go_simp <;> with_reducible rfl)
        try simp only [Act.put, List.setIfInBounds_toArray, List.set_cons_zero, List.set_cons_succ]
        refine wpAnyH_ready (rs := [28]) (by kernel_rfl) (by simp) ?_
        refine AllReadyH.cons (o := _) (nth_at rfl) (fun K hK => ?_) AllReadyH.nil
        go_simp
        with_reducible refine (HGb _ (KeepC.of_below B10) _ px).mono ?_
        rintro e w11 ⟨v11, rfl, o11, b11⟩
        have C11 := C10.trans (b11.mono C10.size)
        have B11 := B10.trans (b11.mono B10.size)
        have k11 := KeepC.of_below b11
        replace pL := pL.keep k11
        have pgb := o11.view
        clear o11
        try dsimp only
        refine hK.out _ _ ?_ (fun hHeld => ?_)
        · exact SK.out _ C11
        clear hK K
        try simp only [Act.put, List.setIfInBounds_toArray, List.set_cons_zero, List.set_cons_succ]
        refine wpAnyH_ready (rs := [31]) (by kernel_rfl) (by simp) ?_
        refine AllReadyH.cons (o := _) (nth_at rfl) (fun K hK => ?_) AllReadyH.nil
        go_simp
        with_reducible refine (HLb _ (KeepC.of_below B11) _ pL).mono ?_
        rintro e w12 ⟨v12, rfl, o12, b12⟩
        have C12 := C11.trans (b12.mono C11.size)
        have B12 := B11.trans (b12.mono B11.size)
        have k12 := KeepC.of_below b12
        replace pgb := pgb.keep k12
        have plb := o12.view
        clear o12
        try dsimp only
        refine hK.out _ _ ?_ (fun hHeld => ?_)
        · exact SK.out _ C12
        clear hK K
        try simp only [Act.put, List.setIfInBounds_toArray, List.set_cons_zero, List.set_cons_succ]
        refine wpAnyH_ready (rs := [32]) (by kernel_rfl) (by simp) ?_
        refine AllReadyH.cons (o := _) (nth_at rfl) (fun K hK => ?_) AllReadyH.nil
        go_simp
        with_reducible refine (HSb _ _ _ pgb plb).mono ?_
        rintro e w13 ⟨rfl, b13⟩
        have C13 := C12.trans (b13.mono C12.size)
        have B13 := B12.trans (b13.mono B12.size)
        have k13 := KeepC.of_below b13
        try dsimp only
        refine hK.out _ _ ?_ (fun hHeld => ?_)
        · exact SK.out _ C13
        clear hK K
        try simp only [Act.put, List.setIfInBounds_toArray, List.set_cons_zero, List.set_cons_succ]
        refine wpAnyH_take (i := 33) (oi := _) (v := ?_) (nth_at rfl) (by kernel_rfl) (by kernel_rfl) (by kernel_rfl) (fun _ _ _ h => h) (Or.inl ⟨by rfl, ?_⟩) (by assumption) ?_
        rotate_left 1
        · intro w hSw; (try dsimp only at hSw); (go_simp <;> with_reducible rfl)
        try simp only [Act.put, List.setIfInBounds_toArray, List.set_cons_zero, List.set_cons_succ]
        refine wpAnyH_take (i := 34) (oi := _) (v := ?_) (nth_at rfl) (by kernel_rfl) (by kernel_rfl) (by kernel_rfl) (fun _ _ _ h => h) (Or.inl ⟨by rfl, ?_⟩) (by assumption) ?_
        rotate_left 1
        · intro w hSw; (try dsimp only at hSw); (go_simp <;> with_reducible rfl)
        try simp only [Act.put, List.setIfInBounds_toArray, List.set_cons_zero, List.set_cons_succ]
        refine wpAnyH_take (i := 35) (oi := _) (v := ?_) (nth_at rfl) (by kernel_rfl) (by kernel_rfl) (by kernel_rfl) (fun _ _ _ h => h) (Or.inl ⟨by rfl, ?_⟩) (by assumption) ?_
        rotate_left 1
        · intro w hSw; (try dsimp only at hSw); (go_simp <;> with_reducible rfl)
        try simp only [Act.put, List.setIfInBounds_toArray, List.set_cons_zero, List.set_cons_succ]
        refine wpAnyH_done (by kernel_rfl) ?_ _
        refine NoPanic.normal ?_
        go_wp2_with fail
        go_ret
        exact ⟨rfl, B13⟩
  · have hX : X = [] := Q2.out hE
    subst hX
    have hE1 : (E != 0) = true := by simpa using hE
    rcases Q3.out with h | h | h
    · exact absurd h hE
    · subst h
      clear Q1 Q2 Q3 hE hE1
      go_wp2_with fail
      go_ret
      exact ⟨rfl, B5⟩
    · subst h
      clear Q1 Q2 Q3 hE hE1
      go_wp2_with fail
      go_ret
      exact ⟨rfl, B5⟩
end Go.Proofs.YtmjmmcdhpognaaaDoor
