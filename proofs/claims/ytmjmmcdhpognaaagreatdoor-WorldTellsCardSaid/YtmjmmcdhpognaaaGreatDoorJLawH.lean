/- Joined: LawH -/
import Derived.Test.YtmjmmcdhpognaaaGreatDoorJWM
import Derived.Test.YtmjmmcdhpognaaaGreatDoorJWN
/- The law WorldTells, walked. -/
namespace Go.Proofs.YtmjmmcdhpognaaaGreatDoor
open Go.RowKit Go.Shelf
attribute [local go_sem] Oper.semAt_some
set_option maxRecDepth 100000 in
set_option maxHeartbeats 8000000 in
theorem tells11_any (l : List PartD) (hl : l.length ≤ maxLen) (hi : ∀ x ∈ l, OkP x) (hcl : CsK l) (l2 : List PartD) (hl2 : l2.length ≤ maxLen) (hi2 : ∀ x ∈ l2, OkP x) (v v2 : Value) (a : LblD) (ha : a.cs < 18446744073709551616) (q : Int) (ea : Addr) (w : World)
    (hge : w.cell? ⟨1, 0, none⟩ = some (errV8 ea)) (het : ErrT w) (hv : PartsV w v l) (hv2 : PartsV w v2 l2) :
    Calls Tryz.prog 3 #[v, lblV a, .int .i64 q, v2] w fun e w' => e = .returned (.bool true) ∧ Below w.heap.size w w' := by
  have HSh := fun W (h : KeepC w W) => shown_any ea W (h.2 _ _ _ hge) (h.2 _ _ _ het)
  have HF := fun W (h : KeepC w W) => few11_any l hl hi v W (hv.keep h)
  have HG := fun W (h : KeepC w W) => few11_any l2 hl2 hi2 v2 W (hv2.keep h)
  have fL := fewW_fits l
  have fM := fewW_fits l2
  have cL := few_cs hcl
  generalize fewW l = L at *
  generalize fewW l2 = M at *
  have HR1 := fun W (h : KeepC w W) v1 (h1 : PartsV W v1 L) => worldRight_any L fL.w v1 ea W (h.2 _ _ _ hge) h1
  have HR2 := fun W v1 (h1 : PartsV W v1 L) => refWRight_any L fL.w v1 W h1
  have HG1 := fun W (h : KeepC w W) v1 (h1 : PartsV W v1 L) => Get_any L fL.w v1 a ea W (h.2 _ _ _ hge) h1
  have HG2 := fun W v1 (h1 : PartsV W v1 L) => refGet_any L fL.w v1 a W h1
  have fG := get_fits a fL
  have HSO := fun W v1 v2 (h1 : ObjsV W v1 (getW L a)) (h2 : ObjsV W v2 (getW L a)) => sameR_any (getW L a) (getW L a) fG fG v1 v2 W h1 h2
  rw [sameS_refl] at HSO
  have HS1 := fun W v1 (h1 : PartsV W v1 L) => Seen_any L fL.w cL v1 a ha W h1
  have HS2 := fun W v1 (h1 : PartsV W v1 L) => refSeen_any L fL.w v1 a W h1
  have fY := seen_fits a fL
  have HSS := fun W v1 v2 (h1 : PartsV W v1 (seenW L a)) (h2 : PartsV W v2 (seenW L a)) => refSame_any (seenW L a) (seenW L a) fY.w fY.w v1 v2 W h1 h2
  rw [sameW_refl] at HSS
  have HW1 := fun W (h : KeepC w W) v1 (h1 : PartsV W v1 L) => Within_any L fL.w v1 q ea W (h.2 _ _ _ hge) h1
  have HW2 := fun W v1 (h1 : PartsV W v1 L) => refWithin_any L fL.w v1 q W h1
  have HM1 := fun W v1 v2 (h1 : PartsV W v1 L) (h2 : PartsV W v2 M) => worldSame_any L M fL.w fM.w v1 v2 W h1 h2
  have HM2 := fun W v1 v2 (h1 : PartsV W v1 L) (h2 : PartsV W v2 M) => refSame_any L M fL.w fM.w v1 v2 W h1 h2
  have HM3 := fun W v1 v2 (h1 : PartsV W v1 L) (h2 : PartsV W v2 L) => worldSame_any L L fL.w fL.w v1 v2 W h1 h2
  rw [sameW_refl] at HM3
  generalize worldB L = wb at *
  generalize getW L a = gt at *
  generalize seenW L a = Y at *
  generalize withinB L q = wi at *
  generalize sameW L M = sm at *
  obtain ⟨l1, S1, i1⟩ := a
  have B0 := (Below.refl _ w).alloc (Nat.le_refl _) (.cells #[.int .i64 l1, .int .u64 S1, .int .i64 i1] 25)
  have n0 := Blk.new w #[.int .i64 l1, .int .u64 S1, .int .i64 i1] 25
  obtain ⟨av, cv, rfl, -⟩ := hv.at
  obtain ⟨av2, cv2, rfl, -⟩ := hv2.at
  clear hge het hv hv2 hi hi2 hl hl2 hcl cL fL fM fG fY ha
  go_enter Tryz.func3, Tryz.ntmps3
  try simp only [List.append_eq, List.cons_append, List.nil_append]
  go_wp2_with fail
  generalize w.alloc (.cells #[.int .i64 l1, .int .u64 S1, .int .i64 i1] 25) = w0 at *
  have SK : Hid (∀ u, Below w0.heap.size w0 u → u.cell? ⟨w.heap.size, 0, none⟩ = some (.int .i64 l1) ∧ u.cell? ⟨w.heap.size, 1, none⟩ = some (.int .u64 S1) ∧ u.cell? ⟨w.heap.size, 2, none⟩ = some (.int .i64 i1)) := by
    show ∀ u, _
    intro u h
    have m := n0.below h n0.lt
    exact ⟨(m.cell 0).trans rfl, (m.cell 1).trans rfl, (m.cell 2).trans rfl⟩
  clear n0
  have C0 := Below.refl w0.heap.size w0
  with_reducible refine (HSh _ (KeepC.of_below B0)).mono ?_
  rintro e w1 ⟨rfl, b1⟩
  have B1 := B0.trans (b1.mono B0.size)
  have C1 := C0.trans (b1.mono C0.size)
  clear C0
  obtain ⟨e0, e1, e2⟩ := SK.out _ C1
  clear b1 B0
  clear HSh
  go_wp2_with fail
  with_reducible refine (HF _ (KeepC.of_below B1)).mono ?_
  rintro e w2 ⟨vL, rfl, o2, b2⟩
  have B2 := B1.trans (b2.mono B1.size)
  have C2 := C1.trans (b2.mono C1.size)
  clear C1
  clear e0 e1 e2
  obtain ⟨e0, e1, e2⟩ := SK.out _ C2
  clear b2 B1
  have pL := o2.view
  clear o2
  clear HF
  go_wp2_with fail
  with_reducible refine (HG _ (KeepC.of_below B2)).mono ?_
  rintro e w3 ⟨vM, rfl, o3, b3⟩
  have B3 := B2.trans (b3.mono B2.size)
  have C3 := C2.trans (b3.mono C2.size)
  clear C2
  clear e0 e1 e2
  obtain ⟨e0, e1, e2⟩ := SK.out _ C3
  replace pL := pL.keep (KeepC.of_below b3)
  clear b3 B2
  have pM := o3.view
  clear o3
  clear HG
  go_wp2_with fail
  have bd : Below w3.heap.size w3 w3.drew := (Below.refl _ w3).drew
  have B4 := B3.trans (bd.mono B3.size)
  have C4 := C3.trans (bd.mono C3.size)
  replace pL := pL.keep (KeepC.of_below bd)
  replace pM := pM.keep (KeepC.of_below bd)
  clear e0 e1 e2 B3 C3 bd
  have e4 := SK.out _ C4
  refine wp_region_noPanic ?_
  refine wp_region_held_drew (S := (fun u => u.cell? ⟨w.heap.size, 0, none⟩ = some (.int .i64 l1) ∧ u.cell? ⟨w.heap.size, 1, none⟩ = some (.int .u64 S1) ∧ u.cell? ⟨w.heap.size, 2, none⟩ = some (.int .i64 i1))) (by kernel_rfl) ?_ (fun hHeld => ?_)
  · exact e4
  refine wpAnyH_take (i := 0) (oi := _) (v := ?_) (nth_at rfl) (by kernel_rfl) (by kernel_rfl) (by kernel_rfl) (fun _ _ _ h => h) (Or.inl ⟨by rfl, ?_⟩) (by assumption) ?_
  rotate_left 1
  · intro w hSw; (try dsimp only at hSw); (go_simp <;> with_reducible rfl)
  try simp only [Act.put, List.setIfInBounds_toArray, List.set_cons_zero, List.set_cons_succ]
  refine wpAnyH_take (i := 1) (oi := _) (v := ?_) (nth_at rfl) (by kernel_rfl) (by kernel_rfl) (by kernel_rfl) (fun _ _ _ h => h) (Or.inl ⟨by rfl, ?_⟩) (by assumption) ?_
  rotate_left 1
  · intro w hSw; (try dsimp only at hSw); (go_simp <;> with_reducible rfl)
  try simp only [Act.put, List.setIfInBounds_toArray, List.set_cons_zero, List.set_cons_succ]
  refine wpAnyH_take (i := 2) (oi := _) (v := ?_) (nth_at rfl) (by kernel_rfl) (by kernel_rfl) (by kernel_rfl) (fun _ _ _ h => h) (Or.inl ⟨by rfl, ?_⟩) (by assumption) ?_
  rotate_left 1
  · intro w hSw; (try dsimp only at hSw); (go_simp <;> with_reducible rfl)
  try simp only [Act.put, List.setIfInBounds_toArray, List.set_cons_zero, List.set_cons_succ]
  refine wpAnyH_take (i := 4) (oi := _) (v := ?_) (nth_at rfl) (by kernel_rfl) (by kernel_rfl) (by kernel_rfl) (fun _ _ _ h => h) (Or.inl ⟨by rfl, ?_⟩) (by assumption) ?_
  rotate_left 1
  · intro w hSw; (try dsimp only at hSw); (go_simp <;> with_reducible rfl)
  try simp only [Act.put, List.setIfInBounds_toArray, List.set_cons_zero, List.set_cons_succ]
  refine wpAnyH_ready (rs := [3]) (by kernel_rfl) (by simp) ?_
  refine AllReadyH.cons (o := _) (nth_at rfl) (fun K hK => ?_) AllReadyH.nil
  go_simp
  with_reducible refine (HR1 _ (KeepC.of_below B4) _ pL).mono ?_
  rintro e w5 ⟨rfl, b5⟩
  have B5 := B4.trans (b5.mono B4.size)
  have C5 := C4.trans (b5.mono C4.size)
  have e5 := SK.out _ C5
  replace pL := pL.keep (KeepC.of_below b5)
  replace pM := pM.keep (KeepC.of_below b5)
  clear b5 B4 C4
  refine hK.out _ _ ?_ (fun hHeld => ?_)
  · exact e5
  clear hK K
  try simp only [Act.put, List.setIfInBounds_toArray, List.set_cons_zero, List.set_cons_succ]
  refine wpAnyH_ready (rs := [5]) (by kernel_rfl) (by simp) ?_
  refine AllReadyH.cons (o := _) (nth_at rfl) (fun K hK => ?_) AllReadyH.nil
  go_simp
  with_reducible refine (HR2 _ _ pL).mono ?_
  rintro e w6 ⟨rfl, b6⟩
  have B6 := B5.trans (b6.mono B5.size)
  have C6 := C5.trans (b6.mono C5.size)
  have e6 := SK.out _ C6
  replace pL := pL.keep (KeepC.of_below b6)
  replace pM := pM.keep (KeepC.of_below b6)
  clear b6 B5 C5
  clear HR1 HR2
  refine hK.out _ _ ?_ (fun hHeld => ?_)
  · exact e6
  clear hK K
  try simp only [Act.put, List.setIfInBounds_toArray, List.set_cons_zero, List.set_cons_succ]
  refine wpAnyH_take (i := 6) (oi := _) (v := ?_) (nth_at rfl) (by kernel_rfl) (by kernel_rfl) (by kernel_rfl) (fun _ _ _ h => h) (Or.inl ⟨by rfl, ?_⟩) (by assumption) ?_
  rotate_left 1
  · intro w hSw; (try dsimp only at hSw); (go_simp <;> with_reducible rfl)
  try simp only [Act.put, List.setIfInBounds_toArray, List.set_cons_zero, List.set_cons_succ]
  refine wpAnyH_take (i := 7) (oi := _) (v := ?_) (nth_at rfl) (by kernel_rfl) (by kernel_rfl) (by kernel_rfl) (fun _ _ _ h => h) (Or.inl ⟨by rfl, ?_⟩) (by assumption) ?_
  rotate_left 1
  · intro w hSw; (try dsimp only at hSw); (go_simp <;> with_reducible rfl)
  try simp only [Act.put, List.setIfInBounds_toArray, List.set_cons_zero, List.set_cons_succ]
  refine wpAnyH_take (i := 8) (oi := _) (v := ?_) (nth_at rfl) (by kernel_rfl) (by kernel_rfl) (by kernel_rfl) (fun _ _ _ h => h) (Or.inl ⟨by rfl, ?_⟩) (by assumption) ?_
  rotate_left 1
  · intro w hSw; (try dsimp only at hSw); (go_simp <;> with_reducible rfl)
  try simp only [Act.put, List.setIfInBounds_toArray, List.set_cons_zero, List.set_cons_succ]
  refine wpAnyH_take (i := 9) (oi := _) (v := ?_) (nth_at rfl) (by kernel_rfl) (by kernel_rfl) (by kernel_rfl) (fun _ _ _ h => h) (Or.inl ⟨by rfl, ?_⟩) (by assumption) ?_
  rotate_left 1
  · intro w hSw; (try dsimp only at hSw); (go_simp <;> with_reducible rfl)
  try simp only [Act.put, List.setIfInBounds_toArray, List.set_cons_zero, List.set_cons_succ]
  refine wpAnyH_take (i := 10) (oi := _) (v := ?_) (nth_at rfl) (by kernel_rfl) (by kernel_rfl) (by kernel_rfl) (fun _ _ _ h => h) (Or.inl ⟨by rfl, ?_⟩) (by assumption) ?_
  rotate_left 1
  · intro w hSw; (try dsimp only at hSw); (go_simp <;> with_reducible rfl)
  try simp only [Act.put, List.setIfInBounds_toArray, List.set_cons_zero, List.set_cons_succ]
  refine wpAnyH_take (i := 12) (oi := _) (v := ?_) (nth_at rfl) (by kernel_rfl) (by kernel_rfl) (by kernel_rfl) (fun _ _ _ h => h) (Or.inl ⟨by rfl, ?_⟩) (by assumption) ?_
  rotate_left 1
  · intro w hSw; (try dsimp only at hSw); (go_simp <;> with_reducible rfl)
  try simp only [Act.put, List.setIfInBounds_toArray, List.set_cons_zero, List.set_cons_succ]
  refine wpAnyH_take (i := 13) (oi := _) (v := ?_) (nth_at rfl) (by kernel_rfl) (by kernel_rfl) (by kernel_rfl) (fun _ _ _ h => h) (Or.inl ⟨by rfl, ?_⟩) (by assumption) ?_
  rotate_left 1
  · intro w hSw; (try dsimp only at hSw); (go_simp <;> with_reducible rfl)
  try simp only [Act.put, List.setIfInBounds_toArray, List.set_cons_zero, List.set_cons_succ]
  refine wpAnyH_ready (rs := [11]) (by kernel_rfl) (by simp) ?_
  refine AllReadyH.cons (o := _) (nth_at rfl) (fun K hK => ?_) AllReadyH.nil
  go_simp
  with_reducible refine (HG1 _ (KeepC.of_below B6) _ pL).mono ?_
  rintro e w7 ⟨vA, rfl, o7, b7⟩
  have B7 := B6.trans (b7.mono B6.size)
  have C7 := C6.trans (b7.mono C6.size)
  have e7 := SK.out _ C7
  replace pL := pL.keep (KeepC.of_below b7)
  replace pM := pM.keep (KeepC.of_below b7)
  clear b7 B6 C6
  have pA := o7.view
  clear o7
  refine hK.out _ _ ?_ (fun hHeld => ?_)
  · exact e7
  clear hK K
  try simp only [Act.put, List.setIfInBounds_toArray, List.set_cons_zero, List.set_cons_succ]
  refine wpAnyH_ready (rs := [14]) (by kernel_rfl) (by simp) ?_
  refine AllReadyH.cons (o := _) (nth_at rfl) (fun K hK => ?_) AllReadyH.nil
  go_simp
  with_reducible refine (HG2 _ _ pL).mono ?_
  rintro e w8 ⟨vB, rfl, pB, b8⟩
  have B8 := B7.trans (b8.mono B7.size)
  have C8 := C7.trans (b8.mono C7.size)
  have e8 := SK.out _ C8
  replace pL := pL.keep (KeepC.of_below b8)
  replace pM := pM.keep (KeepC.of_below b8)
  replace pA := pA.keep (KeepC.of_below b8)
  clear b8 B7 C7
  clear HG1 HG2
  refine hK.out _ _ ?_ (fun hHeld => ?_)
  · exact e8
  clear hK K
  try simp only [Act.put, List.setIfInBounds_toArray, List.set_cons_zero, List.set_cons_succ]
  refine wpAnyH_ready (rs := [15]) (by kernel_rfl) (by simp) ?_
  refine AllReadyH.cons (o := _) (nth_at rfl) (fun K hK => ?_) AllReadyH.nil
  go_simp
  with_reducible refine (HSO _ _ _ pA pB).mono ?_
  rintro e w9 ⟨rfl, b9⟩
  have B9 := B8.trans (b9.mono B8.size)
  have C9 := C8.trans (b9.mono C8.size)
  have e9 := SK.out _ C9
  replace pL := pL.keep (KeepC.of_below b9)
  replace pM := pM.keep (KeepC.of_below b9)
  replace pA := pA.keep (KeepC.of_below b9)
  replace pB := pB.keep (KeepC.of_below b9)
  clear b9 B8 C8
  clear HSO pA pB
  refine hK.out _ _ ?_ (fun hHeld => ?_)
  · exact e9
  clear hK K
  try simp only [Act.put, List.setIfInBounds_toArray, List.set_cons_zero, List.set_cons_succ]
  refine wpAnyH_take (i := 16) (oi := _) (v := ?_) (nth_at rfl) (by kernel_rfl) (by kernel_rfl) (by kernel_rfl) (fun _ _ _ h => h) (Or.inl ⟨by rfl, ?_⟩) (by assumption) ?_
  rotate_left 1
  · intro w hSw; (try dsimp only at hSw); (go_simp <;> with_reducible rfl)
  try simp only [Act.put, List.setIfInBounds_toArray, List.set_cons_zero, List.set_cons_succ]
  refine wpAnyH_take (i := 17) (oi := _) (v := ?_) (nth_at rfl) (by kernel_rfl) (by kernel_rfl) (by kernel_rfl) (fun _ _ _ h => h) (Or.inl ⟨by rfl, ?_⟩) (by assumption) ?_
  rotate_left 1
  · intro w hSw; (try dsimp only at hSw); (go_simp <;> with_reducible rfl)
  try simp only [Act.put, List.setIfInBounds_toArray, List.set_cons_zero, List.set_cons_succ]
  refine wpAnyH_take (i := 18) (oi := _) (v := ?_) (nth_at rfl) (by kernel_rfl) (by kernel_rfl) (by kernel_rfl) (fun _ _ _ h => h) (Or.inl ⟨by rfl, ?_⟩) (by assumption) ?_
  rotate_left 1
  · intro w hSw; (try dsimp only at hSw); (go_simp <;> with_reducible rfl)
  try simp only [Act.put, List.setIfInBounds_toArray, List.set_cons_zero, List.set_cons_succ]
  refine wpAnyH_take (i := 19) (oi := _) (v := ?_) (nth_at rfl) (by kernel_rfl) (by kernel_rfl) (by kernel_rfl) (fun _ _ _ h => h) (Or.inl ⟨by rfl, ?_⟩) (by assumption) ?_
  rotate_left 1
  · intro w hSw; (try dsimp only at hSw); (go_simp <;> with_reducible rfl)
  try simp only [Act.put, List.setIfInBounds_toArray, List.set_cons_zero, List.set_cons_succ]
  refine wpAnyH_take (i := 21) (oi := _) (v := ?_) (nth_at rfl) (by kernel_rfl) (by kernel_rfl) (by kernel_rfl) (fun _ _ _ h => h) (Or.inl ⟨by rfl, ?_⟩) (by assumption) ?_
  rotate_left 1
  · intro w hSw; (try dsimp only at hSw); (go_simp <;> with_reducible rfl)
  try simp only [Act.put, List.setIfInBounds_toArray, List.set_cons_zero, List.set_cons_succ]
  refine wpAnyH_take (i := 22) (oi := _) (v := ?_) (nth_at rfl) (by kernel_rfl) (by kernel_rfl) (by kernel_rfl) (fun _ _ _ h => h) (Or.inl ⟨by rfl, ?_⟩) (by assumption) ?_
  rotate_left 1
  · intro w hSw; (try dsimp only at hSw); (go_simp <;> with_reducible rfl)
  try simp only [Act.put, List.setIfInBounds_toArray, List.set_cons_zero, List.set_cons_succ]
  refine wpAnyH_ready (rs := [20]) (by kernel_rfl) (by simp) ?_
  refine AllReadyH.cons (o := _) (nth_at rfl) (fun K hK => ?_) AllReadyH.nil
  go_simp
  with_reducible refine (HS1 _ _ pL).mono ?_
  rintro e w10 ⟨vC, rfl, o10, b10⟩
  have B10 := B9.trans (b10.mono B9.size)
  have C10 := C9.trans (b10.mono C9.size)
  have e10 := SK.out _ C10
  replace pL := pL.keep (KeepC.of_below b10)
  replace pM := pM.keep (KeepC.of_below b10)
  clear b10 B9 C9
  have pC := o10.view
  clear o10
  refine hK.out _ _ ?_ (fun hHeld => ?_)
  · exact e10
  clear hK K
  try simp only [Act.put, List.setIfInBounds_toArray, List.set_cons_zero, List.set_cons_succ]
  refine wpAnyH_ready (rs := [23]) (by kernel_rfl) (by simp) ?_
  refine AllReadyH.cons (o := _) (nth_at rfl) (fun K hK => ?_) AllReadyH.nil
  go_simp
  with_reducible refine (HS2 _ _ pL).mono ?_
  rintro e w11 ⟨vD, rfl, pD, b11⟩
  have B11 := B10.trans (b11.mono B10.size)
  have C11 := C10.trans (b11.mono C10.size)
  have e11 := SK.out _ C11
  replace pL := pL.keep (KeepC.of_below b11)
  replace pM := pM.keep (KeepC.of_below b11)
  replace pC := pC.keep (KeepC.of_below b11)
  clear b11 B10 C10
  clear HS1 HS2
  refine hK.out _ _ ?_ (fun hHeld => ?_)
  · exact e11
  clear hK K
  try simp only [Act.put, List.setIfInBounds_toArray, List.set_cons_zero, List.set_cons_succ]
  refine wpAnyH_ready (rs := [24]) (by kernel_rfl) (by simp) ?_
  refine AllReadyH.cons (o := _) (nth_at rfl) (fun K hK => ?_) AllReadyH.nil
  go_simp
  with_reducible refine (HSS _ _ _ pC pD).mono ?_
  rintro e w12 ⟨rfl, b12⟩
  have B12 := B11.trans (b12.mono B11.size)
  have C12 := C11.trans (b12.mono C11.size)
  have e12 := SK.out _ C12
  replace pL := pL.keep (KeepC.of_below b12)
  replace pM := pM.keep (KeepC.of_below b12)
  replace pC := pC.keep (KeepC.of_below b12)
  replace pD := pD.keep (KeepC.of_below b12)
  clear b12 B11 C11
  clear HSS pC pD
  refine hK.out _ _ ?_ (fun hHeld => ?_)
  · exact e12
  clear hK K
  try simp only [Act.put, List.setIfInBounds_toArray, List.set_cons_zero, List.set_cons_succ]
  refine wpAnyH_take (i := 25) (oi := _) (v := ?_) (nth_at rfl) (by kernel_rfl) (by kernel_rfl) (by kernel_rfl) (fun _ _ _ h => h) (Or.inl ⟨by rfl, ?_⟩) (by assumption) ?_
  rotate_left 1
  · intro w hSw; (try dsimp only at hSw); (go_simp <;> with_reducible rfl)
  try simp only [Act.put, List.setIfInBounds_toArray, List.set_cons_zero, List.set_cons_succ]
  refine wpAnyH_take (i := 26) (oi := _) (v := ?_) (nth_at rfl) (by kernel_rfl) (by kernel_rfl) (by kernel_rfl) (fun _ _ _ h => h) (Or.inl ⟨by rfl, ?_⟩) (by assumption) ?_
  rotate_left 1
  · intro w hSw; (try dsimp only at hSw); (go_simp <;> with_reducible rfl)
  try simp only [Act.put, List.setIfInBounds_toArray, List.set_cons_zero, List.set_cons_succ]
  refine wpAnyH_take (i := 27) (oi := _) (v := ?_) (nth_at rfl) (by kernel_rfl) (by kernel_rfl) (by kernel_rfl) (fun _ _ _ h => h) (Or.inl ⟨by rfl, ?_⟩) (by assumption) ?_
  rotate_left 1
  · intro w hSw; (try dsimp only at hSw); (go_simp <;> with_reducible rfl)
  try simp only [Act.put, List.setIfInBounds_toArray, List.set_cons_zero, List.set_cons_succ]
  refine wpAnyH_take (i := 28) (oi := _) (v := ?_) (nth_at rfl) (by kernel_rfl) (by kernel_rfl) (by kernel_rfl) (fun _ _ _ h => h) (Or.inl ⟨by rfl, ?_⟩) (by assumption) ?_
  rotate_left 1
  · intro w hSw; (try dsimp only at hSw); (go_simp <;> with_reducible rfl)
  try simp only [Act.put, List.setIfInBounds_toArray, List.set_cons_zero, List.set_cons_succ]
  refine wpAnyH_take (i := 30) (oi := _) (v := ?_) (nth_at rfl) (by kernel_rfl) (by kernel_rfl) (by kernel_rfl) (fun _ _ _ h => h) (Or.inl ⟨by rfl, ?_⟩) (by assumption) ?_
  rotate_left 1
  · intro w hSw; (try dsimp only at hSw); (go_simp <;> with_reducible rfl)
  try simp only [Act.put, List.setIfInBounds_toArray, List.set_cons_zero, List.set_cons_succ]
  refine wpAnyH_take (i := 31) (oi := _) (v := ?_) (nth_at rfl) (by kernel_rfl) (by kernel_rfl) (by kernel_rfl) (fun _ _ _ h => h) (Or.inl ⟨by rfl, ?_⟩) (by assumption) ?_
  rotate_left 1
  · intro w hSw; (try dsimp only at hSw); (go_simp <;> with_reducible rfl)
  try simp only [Act.put, List.setIfInBounds_toArray, List.set_cons_zero, List.set_cons_succ]
  refine wpAnyH_ready (rs := [29]) (by kernel_rfl) (by simp) ?_
  refine AllReadyH.cons (o := _) (nth_at rfl) (fun K hK => ?_) AllReadyH.nil
  go_simp
  with_reducible refine (HW1 _ (KeepC.of_below B12) _ pL).mono ?_
  rintro e w13 ⟨rfl, b13⟩
  have B13 := B12.trans (b13.mono B12.size)
  have C13 := C12.trans (b13.mono C12.size)
  have e13 := SK.out _ C13
  replace pL := pL.keep (KeepC.of_below b13)
  replace pM := pM.keep (KeepC.of_below b13)
  clear b13 B12 C12
  refine hK.out _ _ ?_ (fun hHeld => ?_)
  · exact e13
  clear hK K
  try simp only [Act.put, List.setIfInBounds_toArray, List.set_cons_zero, List.set_cons_succ]
  refine wpAnyH_ready (rs := [32]) (by kernel_rfl) (by simp) ?_
  refine AllReadyH.cons (o := _) (nth_at rfl) (fun K hK => ?_) AllReadyH.nil
  go_simp
  with_reducible refine (HW2 _ _ pL).mono ?_
  rintro e w14 ⟨rfl, b14⟩
  have B14 := B13.trans (b14.mono B13.size)
  have C14 := C13.trans (b14.mono C13.size)
  have e14 := SK.out _ C14
  replace pL := pL.keep (KeepC.of_below b14)
  replace pM := pM.keep (KeepC.of_below b14)
  clear b14 B13 C13
  clear HW1 HW2
  refine hK.out _ _ ?_ (fun hHeld => ?_)
  · exact e14
  clear hK K
  try simp only [Act.put, List.setIfInBounds_toArray, List.set_cons_zero, List.set_cons_succ]
  refine wpAnyH_take (i := 33) (oi := _) (v := ?_) (nth_at rfl) (by kernel_rfl) (by kernel_rfl) (by kernel_rfl) (fun _ _ _ h => h) (Or.inl ⟨by rfl, ?_⟩) (by assumption) ?_
  rotate_left 1
  · intro w hSw; (try dsimp only at hSw); (go_simp <;> with_reducible rfl)
  try simp only [Act.put, List.setIfInBounds_toArray, List.set_cons_zero, List.set_cons_succ]
  refine wpAnyH_take (i := 34) (oi := _) (v := ?_) (nth_at rfl) (by kernel_rfl) (by kernel_rfl) (by kernel_rfl) (fun _ _ _ h => h) (Or.inl ⟨by rfl, ?_⟩) (by assumption) ?_
  rotate_left 1
  · intro w hSw; (try dsimp only at hSw); (go_simp <;> with_reducible rfl)
  try simp only [Act.put, List.setIfInBounds_toArray, List.set_cons_zero, List.set_cons_succ]
  refine wpAnyH_take (i := 35) (oi := _) (v := ?_) (nth_at rfl) (by kernel_rfl) (by kernel_rfl) (by kernel_rfl) (fun _ _ _ h => h) (Or.inl ⟨by rfl, ?_⟩) (by assumption) ?_
  rotate_left 1
  · intro w hSw; (try dsimp only at hSw); (go_simp <;> with_reducible rfl)
  try simp only [Act.put, List.setIfInBounds_toArray, List.set_cons_zero, List.set_cons_succ]
  refine wpAnyH_take (i := 36) (oi := _) (v := ?_) (nth_at rfl) (by kernel_rfl) (by kernel_rfl) (by kernel_rfl) (fun _ _ _ h => h) (Or.inl ⟨by rfl, ?_⟩) (by assumption) ?_
  rotate_left 1
  · intro w hSw; (try dsimp only at hSw); (go_simp <;> with_reducible rfl)
  try simp only [Act.put, List.setIfInBounds_toArray, List.set_cons_zero, List.set_cons_succ]
  refine wpAnyH_take (i := 37) (oi := _) (v := ?_) (nth_at rfl) (by kernel_rfl) (by kernel_rfl) (by kernel_rfl) (fun _ _ _ h => h) (Or.inl ⟨by rfl, ?_⟩) (by assumption) ?_
  rotate_left 1
  · intro w hSw; (try dsimp only at hSw); (go_simp <;> with_reducible rfl)
  try simp only [Act.put, List.setIfInBounds_toArray, List.set_cons_zero, List.set_cons_succ]
  refine wpAnyH_take (i := 39) (oi := _) (v := ?_) (nth_at rfl) (by kernel_rfl) (by kernel_rfl) (by kernel_rfl) (fun _ _ _ h => h) (Or.inl ⟨by rfl, ?_⟩) (by assumption) ?_
  rotate_left 1
  · intro w hSw; (try dsimp only at hSw); (go_simp <;> with_reducible rfl)
  try simp only [Act.put, List.setIfInBounds_toArray, List.set_cons_zero, List.set_cons_succ]
  refine wpAnyH_take (i := 40) (oi := _) (v := ?_) (nth_at rfl) (by kernel_rfl) (by kernel_rfl) (by kernel_rfl) (fun _ _ _ h => h) (Or.inl ⟨by rfl, ?_⟩) (by assumption) ?_
  rotate_left 1
  · intro w hSw; (try dsimp only at hSw); (go_simp <;> with_reducible rfl)
  try simp only [Act.put, List.setIfInBounds_toArray, List.set_cons_zero, List.set_cons_succ]
  refine wpAnyH_ready (rs := [38]) (by kernel_rfl) (by simp) ?_
  refine AllReadyH.cons (o := _) (nth_at rfl) (fun K hK => ?_) AllReadyH.nil
  go_simp
  with_reducible refine (HM1 _ _ _ pL pM).mono ?_
  rintro e w15 ⟨rfl, b15⟩
  have B15 := B14.trans (b15.mono B14.size)
  have C15 := C14.trans (b15.mono C14.size)
  have e15 := SK.out _ C15
  replace pL := pL.keep (KeepC.of_below b15)
  replace pM := pM.keep (KeepC.of_below b15)
  clear b15 B14 C14
  refine hK.out _ _ ?_ (fun hHeld => ?_)
  · exact e15
  clear hK K
  try simp only [Act.put, List.setIfInBounds_toArray, List.set_cons_zero, List.set_cons_succ]
  refine wpAnyH_ready (rs := [41]) (by kernel_rfl) (by simp) ?_
  refine AllReadyH.cons (o := _) (nth_at rfl) (fun K hK => ?_) AllReadyH.nil
  go_simp
  with_reducible refine (HM2 _ _ _ pL pM).mono ?_
  rintro e w16 ⟨rfl, b16⟩
  have B16 := B15.trans (b16.mono B15.size)
  have C16 := C15.trans (b16.mono C15.size)
  have e16 := SK.out _ C16
  replace pL := pL.keep (KeepC.of_below b16)
  replace pM := pM.keep (KeepC.of_below b16)
  clear b16 B15 C15
  clear HM1 HM2
  refine hK.out _ _ ?_ (fun hHeld => ?_)
  · exact e16
  clear hK K
  try simp only [Act.put, List.setIfInBounds_toArray, List.set_cons_zero, List.set_cons_succ]
  refine wpAnyH_take (i := 42) (oi := _) (v := ?_) (nth_at rfl) (by kernel_rfl) (by kernel_rfl) (by kernel_rfl) (fun _ _ _ h => h) (Or.inl ⟨by rfl, ?_⟩) (by assumption) ?_
  rotate_left 1
  · intro w hSw; (try dsimp only at hSw); (go_simp <;> with_reducible rfl)
  try simp only [Act.put, List.setIfInBounds_toArray, List.set_cons_zero, List.set_cons_succ]
  refine wpAnyH_take (i := 43) (oi := _) (v := ?_) (nth_at rfl) (by kernel_rfl) (by kernel_rfl) (by kernel_rfl) (fun _ _ _ h => h) (Or.inl ⟨by rfl, ?_⟩) (by assumption) ?_
  rotate_left 1
  · intro w hSw; (try dsimp only at hSw); (go_simp <;> with_reducible rfl)
  try simp only [Act.put, List.setIfInBounds_toArray, List.set_cons_zero, List.set_cons_succ]
  refine wpAnyH_take (i := 44) (oi := _) (v := ?_) (nth_at rfl) (by kernel_rfl) (by kernel_rfl) (by kernel_rfl) (fun _ _ _ h => h) (Or.inl ⟨by rfl, ?_⟩) (by assumption) ?_
  rotate_left 1
  · intro w hSw; (try dsimp only at hSw); (go_simp <;> with_reducible rfl)
  try simp only [Act.put, List.setIfInBounds_toArray, List.set_cons_zero, List.set_cons_succ]
  refine wpAnyH_take (i := 45) (oi := _) (v := ?_) (nth_at rfl) (by kernel_rfl) (by kernel_rfl) (by kernel_rfl) (fun _ _ _ h => h) (Or.inl ⟨by rfl, ?_⟩) (by assumption) ?_
  rotate_left 1
  · intro w hSw; (try dsimp only at hSw); (go_simp <;> with_reducible rfl)
  try simp only [Act.put, List.setIfInBounds_toArray, List.set_cons_zero, List.set_cons_succ]
  refine wpAnyH_take (i := 46) (oi := _) (v := ?_) (nth_at rfl) (by kernel_rfl) (by kernel_rfl) (by kernel_rfl) (fun _ _ _ h => h) (Or.inl ⟨by rfl, ?_⟩) (by assumption) ?_
  rotate_left 1
  · intro w hSw; (try dsimp only at hSw); (go_simp <;> with_reducible rfl)
  try simp only [Act.put, List.setIfInBounds_toArray, List.set_cons_zero, List.set_cons_succ]
  refine wpAnyH_ready (rs := [47]) (by kernel_rfl) (by simp) ?_
  refine AllReadyH.cons (o := _) (nth_at rfl) (fun K hK => ?_) AllReadyH.nil
  go_simp
  with_reducible refine (HM3 _ _ _ pL pL).mono ?_
  rintro e w17 ⟨rfl, b17⟩
  have B17 := B16.trans (b17.mono B16.size)
  have C17 := C16.trans (b17.mono C16.size)
  have e17 := SK.out _ C17
  replace pL := pL.keep (KeepC.of_below b17)
  replace pM := pM.keep (KeepC.of_below b17)
  clear b17 B16 C16
  clear HM3
  refine hK.out _ _ ?_ (fun hHeld => ?_)
  · exact e17
  clear hK K
  try simp only [Act.put, List.setIfInBounds_toArray, List.set_cons_zero, List.set_cons_succ]
  refine wpAnyH_take (i := 48) (oi := _) (v := ?_) (nth_at rfl) (by kernel_rfl) (by kernel_rfl) (by kernel_rfl) (fun _ _ _ h => h) (Or.inl ⟨by rfl, ?_⟩) (by assumption) ?_
  rotate_left 1
  · intro w hSw; (try dsimp only at hSw); (go_simp <;> with_reducible rfl)
  try simp only [Act.put, List.setIfInBounds_toArray, List.set_cons_zero, List.set_cons_succ]
  refine wpAnyH_take (i := 49) (oi := _) (v := ?_) (nth_at rfl) (by kernel_rfl) (by kernel_rfl) (by kernel_rfl) (fun _ _ _ h => h) (Or.inl ⟨by rfl, ?_⟩) (by assumption) ?_
  rotate_left 1
  · intro w hSw; (try dsimp only at hSw); (go_simp <;> with_reducible rfl)
  try simp only [Act.put, List.setIfInBounds_toArray, List.set_cons_zero, List.set_cons_succ]
  refine wpAnyH_done (by kernel_rfl) ?_ _
  refine NoPanic.normal ?_
  go_wp2_with fail
  go_ret
  exact ⟨rfl, B17⟩
end Go.Proofs.YtmjmmcdhpognaaaGreatDoor
