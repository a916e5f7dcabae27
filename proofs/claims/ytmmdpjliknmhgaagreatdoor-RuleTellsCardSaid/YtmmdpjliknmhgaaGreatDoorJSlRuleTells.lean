/- Joined: SlRuleTells -/
import Derived.Test.YtmmdpjliknmhgaaGreatDoorJRQ
import Derived.Test.YtmmdpjliknmhgaaGreatDoorJRR
import Derived.Test.YtmmdpjliknmhgaaGreatDoorJRS
import Derived.Deep.DeepMust
/- A statement of layer 14: RuleTells. -/
namespace Go.Proofs.YtmmdpjliknmhgaaGreatDoor
open Go.RowKit Go.Shelf
attribute [local go_sem] Oper.semAt_some
set_option maxRecDepth 100000 in
set_option maxHeartbeats 8000000 in
theorem ruleTells_any (l : List RuT) (hl : l.length ≤ maxLen) (hf : ∀ r ∈ l, r.what.2.2.length ≤ maxLen) (hS : ∀ r ∈ l, r.src.2.1 < 18446744073709551616 ∧ r.dst.2.1 < 18446744073709551616) (v : Value) (nn : Int) (lb : LaT) (ea : Addr) (mx : Int) (w : World) (hG : Glob ea mx w) (hv : RulesV w v l) :
    Calls Tryz.prog 7 #[v, .int .i64 nn, .agg #[.int .i64 lb.1, .int .u64 lb.2.1, .int .i64 lb.2.2]] w fun e w' => e = .returned (.bool true) ∧ Below w.heap.size w w' := by
  have hGk := fun W (h : Below w.heap.size w W) => hG.same (W := W) h.block
  have HSh := fun W (h : Below w.heap.size w W) => shown14_any ea mx W (hGk W h)
  have HF := fun W (h : Below w.heap.size w W) => few14_any l hl hf v W (hv.keep (KeepC.of_below h))
  have hFl := fewRu_len l
  have hFo := fewRu_ok l hS
  have hFq := fewRu_q l hS
  have HR := fun W (h : Below w.heap.size w W) u hu => ruRight_any (fewRu l) (by omega) hFo u ea W (hGk W h).1 hu
  have HQ := fun W u hu => ruRightR_any (fewRu l) (by omega) hFq u W hu
  have HN := fun W u hu => ruFind_any (fewRu l) (by omega) u nn W hu
  have HM := fun W u hu => ruFindR_any (fewRu l) (by omega) u nn W hu
  have HX := fun W u hu => ruFrom_any (fewRu l) (by omega) u lb W hu
  have HY := fun W u hu => ruFromR_any (fewRu l) (by omega) u lb W hu
  have hfl : (fromRu (fewRu l) lb).length ≤ (fewRu l).length := List.length_filter_le _ _
  have HS := fun W u z hu hz => ruSame_eq (fromRu (fewRu l) lb) (by omega) u z W hu hz
  clear hG hGk hv hFo hS hf
  generalize fewRu l = F at *
  generalize fromRu F lb = G at *
  generalize ruL.right F = R at *
  generalize (findRu F nn).isSome = ok at *
  obtain ⟨x, hx⟩ : ∃ x, (findRu F nn).getD zRu = x := ⟨_, rfl⟩
  simp only [hx] at HN HM
  clear hx
  obtain ⟨id, ⟨l1, S1, i1⟩, ⟨l2, S2, i2⟩, bu, ⟨k, m, form⟩⟩ := x
  obtain ⟨la, Sa, ia⟩ := lb
  dsimp only at *
  have B0 := (Below.refl _ w).alloc (Nat.le_refl _) (.cells #[.int .i64 la, .int .u64 Sa, .int .i64 ia] 36)
  have n0 := Blk.new w #[.int .i64 la, .int .u64 Sa, .int .i64 ia] 36
  obtain ⟨W0, hW0⟩ : ∃ W0, w.alloc (.cells #[.int .i64 la, .int .u64 Sa, .int .i64 ia] 36) = W0 := ⟨_, rfl⟩
  rw [hW0] at B0 n0
  go_enter Tryz.func7, Tryz.ntmps7
  go_wp2_with fail
  with_reducible refine (HSh W0 B0).mono ?_
  rintro e w1 ⟨rfl, b1⟩
  have B1 := B0.trans (b1.mono B0.size)
  have b1x := b1
  clear b1
  have n1 := n0.below b1x n0.lt
  go_wp2_with fail
  with_reducible refine (HF w1 B1).mono ?_
  rintro e w2 ⟨v2, rfl, o2, b2⟩
  have B2 := B1.trans (b2.mono B1.size)
  have b2x := b2
  clear b2
  obtain ⟨a2, cap2, rfl⟩ := ruOwn_shape o2
  have V2 := RulesO.view o2
  clear o2
  have n2 := n1.below b2x n1.lt
  go_wp2_with fail
  with_reducible refine (HN w2 _ V2).mono ?_
  rintro e w3 ⟨rfl, b3⟩
  have B3 := B2.trans (b3.mono B2.size)
  replace V2 := V2.keep (KeepC.of_below b3)
  replace n2 := n2.below b3 n2.lt
  have r3 := Blk.new w3 #[.int .i64 id, .int .i64 l1, .int .u64 S1, .int .i64 i1, .int .i64 l2, .int .u64 S2, .int .i64 i2, .int .i64 bu, .int .i64 k, .int .i64 m, .string ⟨form.toArray⟩] 40
  have B3x := B3.alloc B3.size (.cells #[.int .i64 id, .int .i64 l1, .int .u64 S1, .int .i64 i1, .int .i64 l2, .int .u64 S2, .int .i64 i2, .int .i64 bu, .int .i64 k, .int .i64 m, .string ⟨form.toArray⟩] 40)
  have bb3 := (Below.refl _ w3).alloc (Nat.le_refl _) (.cells #[.int .i64 id, .int .i64 l1, .int .u64 S1, .int .i64 i1, .int .i64 l2, .int .u64 S2, .int .i64 i2, .int .i64 bu, .int .i64 k, .int .i64 m, .string ⟨form.toArray⟩] 40)
  replace V2 := V2.keep (KeepC.of_below bb3)
  replace n2 := n2.below bb3 n2.lt
  go_wp2_with fail
  generalize w3.alloc (.cells #[.int .i64 id, .int .i64 l1, .int .u64 S1, .int .i64 i1, .int .i64 l2, .int .u64 S2, .int .i64 i2, .int .i64 bu, .int .i64 k, .int .i64 m, .string ⟨form.toArray⟩] 40) = W3 at *
  generalize w3.heap.size = x1 at *
  clear b3 bb3
  with_reducible refine (HM W3 _ V2).mono ?_
  rintro e w4 ⟨rfl, b4⟩
  have B4 := B3x.trans (b4.mono B3x.size)
  replace V2 := V2.keep (KeepC.of_below b4)
  replace n2 := n2.below b4 n2.lt
  replace r3 := r3.below b4 r3.lt
  have r4 := Blk.new w4 #[.int .i64 id, .int .i64 l1, .int .u64 S1, .int .i64 i1, .int .i64 l2, .int .u64 S2, .int .i64 i2, .int .i64 bu, .int .i64 k, .int .i64 m, .string ⟨form.toArray⟩] 40
  have B4x := B4.alloc B4.size (.cells #[.int .i64 id, .int .i64 l1, .int .u64 S1, .int .i64 i1, .int .i64 l2, .int .u64 S2, .int .i64 i2, .int .i64 bu, .int .i64 k, .int .i64 m, .string ⟨form.toArray⟩] 40)
  have bb4 := (Below.refl _ w4).alloc (Nat.le_refl _) (.cells #[.int .i64 id, .int .i64 l1, .int .u64 S1, .int .i64 i1, .int .i64 l2, .int .u64 S2, .int .i64 i2, .int .i64 bu, .int .i64 k, .int .i64 m, .string ⟨form.toArray⟩] 40)
  replace V2 := V2.keep (KeepC.of_below bb4)
  replace n2 := n2.below bb4 n2.lt
  replace r3 := r3.below bb4 r3.lt
  go_wp2_with fail
  generalize w4.alloc (.cells #[.int .i64 id, .int .i64 l1, .int .u64 S1, .int .i64 i1, .int .i64 l2, .int .u64 S2, .int .i64 i2, .int .i64 bu, .int .i64 k, .int .i64 m, .string ⟨form.toArray⟩] 40) = W4 at *
  generalize w4.heap.size = x2 at *
  clear b4 bb4
  clear B4 B3x B3 B2 B1 B0 n0 n1 HSh HF HN HM hW0
  obtain ⟨A2, C2, xx2, -, hc⟩ := V2.at
  cases xx2
  go_loopg [12] F.length (fun gg s12 wr => ∃ kk : Nat, kk ≤ F.length ∧ F.length - kk ≤ gg ∧ s12 = .int .i64 kk ∧ Below W4.heap.size W4 wr)
  case atStart => exact ⟨0, Nat.zero_le _, by omega, rfl, Below.refl _ _⟩
  case round =>
    obtain ⟨kk, hkk, hg, rfl, hB⟩ := hrel
    by_cases hlt : kk < F.length
    · have hltz : (kk : Int) < (F.length : Int) := by omega
      have hkz : (0 : Int) ≤ (kk : Int) := by omega
      obtain ⟨b, o, rfl, -, hcl⟩ := hc kk hlt
      have hq := hFq _ (List.getElem_mem hlt)
      have HC1 := fun W => ruCats_any F[kk] W
      have HC2 := fun W => ruCatsR_any F[kk] ⟨hq.1, hq.2.1⟩ W
      have SK := Lib.hid (fun W (h : Below W4.heap.size W4 W) => hcl W (KeepC.of_below h))
      have hBd := hB.drew
      clear hc hcl hq hFq HR HQ HX HY HS
      generalize lessI F[kk].src.2.1 F[kk].dst.2.1 = X at *
      obtain ⟨x, hx⟩ : ∃ x, F[kk] = x := ⟨_, rfl⟩
      simp only [hx] at HC1 HC2 SK
      clear hx r3 r4 n2
      obtain ⟨id, ⟨l1, S1, i1⟩, ⟨l2, S2, i2⟩, bu, ⟨k, m, form⟩⟩ := x
      dsimp only at HC1 HC2 SK
      go_wp2_with fail
      refine wp_region_noPanic ?_
      refine wp_region_held_drew (S := (fun u => u.cell? ⟨b, o + kk * 11, none⟩ = some (.int .i64 id) ∧ u.cell? ⟨b, o + kk * 11 + 1, none⟩ = some (.int .i64 l1) ∧ u.cell? ⟨b, o + kk * 11 + 2, none⟩ = some (.int .u64 S1) ∧ u.cell? ⟨b, o + kk * 11 + 3, none⟩ = some (.int .i64 i1) ∧ u.cell? ⟨b, o + kk * 11 + 4, none⟩ = some (.int .i64 l2) ∧ u.cell? ⟨b, o + kk * 11 + 5, none⟩ = some (.int .u64 S2) ∧ u.cell? ⟨b, o + kk * 11 + 6, none⟩ = some (.int .i64 i2) ∧ u.cell? ⟨b, o + kk * 11 + 7, none⟩ = some (.int .i64 bu) ∧ u.cell? ⟨b, o + kk * 11 + 8, none⟩ = some (.int .i64 k) ∧ u.cell? ⟨b, o + kk * 11 + 9, none⟩ = some (.int .i64 m) ∧ u.cell? ⟨b, o + kk * 11 + 10, none⟩ = some (.string ⟨form.toArray⟩))) (by kernel_rfl) ?_ (fun hHeld => ?_)
      · exact SK.out _ hBd
      refine wpAnyH_take (i := 0) (oi := _) (v := ?_) (nth_at rfl) (by kernel_rfl) (by kernel_rfl) (by kernel_rfl) (fun _ _ _ h => h) (Or.inl ⟨by rfl, ?_⟩) (by assumption) ?_
      rotate_left 1
      · intro w hSw; (try dsimp only at hSw); (go_simp <;> with_reducible rfl)
      try simp only [Act.put, List.setIfInBounds_toArray, List.set_cons_zero, List.set_cons_succ]
      refine wpAnyH_take (i := 1) (oi := _) (v := ?_) (nth_at rfl) (by kernel_rfl) (by kernel_rfl) (by kernel_rfl) (fun _ _ _ h => h) (Or.inl ⟨by rfl, ?_⟩) (by assumption) ?_
      rotate_left 1
      · intro w hSw; (try dsimp only at hSw); (go_simp <;> with_reducible rfl)
      try simp only [Act.put, List.setIfInBounds_toArray, List.set_cons_zero, List.set_cons_succ]
      refine wpAnyH_take (i := 2) (oi := _) (v := ?_) (nth_at rfl) (by kernel_rfl) (by kernel_rfl) (by kernel_rfl) (fun _ _ _ h => h) (Or.inl ⟨by rfl, ?_⟩) (by assumption) ?_
      rotate_left 1
      · intro w hSw; (try dsimp only at hSw); (go_simp <;> with_reducible rfl)
      try simp only [Act.put, List.setIfInBounds_toArray, List.set_cons_zero, List.set_cons_succ]
      refine wpAnyH_take (i := 3) (oi := _) (v := ?_) (nth_at rfl) (by kernel_rfl) (by kernel_rfl) (by kernel_rfl) (fun _ _ _ h => h) (Or.inl ⟨by rfl, ?_⟩) (by assumption) ?_
      rotate_left 1
      · intro w hSw; (try dsimp only at hSw); (go_simp <;> with_reducible rfl)
      try simp only [Act.put, List.setIfInBounds_toArray, List.set_cons_zero, List.set_cons_succ]
      refine wpAnyH_take (i := 5) (oi := _) (v := ?_) (nth_at rfl) (by kernel_rfl) (by kernel_rfl) (by kernel_rfl) (fun _ _ _ h => h) (Or.inl ⟨by rfl, ?_⟩) (by assumption) ?_
      rotate_left 1
      · intro w hSw; (try dsimp only at hSw); (go_simp <;> with_reducible rfl)
      try simp only [Act.put, List.setIfInBounds_toArray, List.set_cons_zero, List.set_cons_succ]
      refine wpAnyH_take (i := 6) (oi := _) (v := ?_) (nth_at rfl) (by kernel_rfl) (by kernel_rfl) (by kernel_rfl) (fun _ _ _ h => h) (Or.inl ⟨by rfl, ?_⟩) (by assumption) ?_
      rotate_left 1
      · intro w hSw; (try dsimp only at hSw); (go_simp <;> with_reducible rfl)
      try simp only [Act.put, List.setIfInBounds_toArray, List.set_cons_zero, List.set_cons_succ]
      refine wpAnyH_take (i := 7) (oi := _) (v := ?_) (nth_at rfl) (by kernel_rfl) (by kernel_rfl) (by kernel_rfl) (fun _ _ _ h => h) (Or.inl ⟨by rfl, ?_⟩) (by assumption) ?_
      rotate_left 1
      · intro w hSw; (try dsimp only at hSw); (go_simp <;> with_reducible rfl)
      try simp only [Act.put, List.setIfInBounds_toArray, List.set_cons_zero, List.set_cons_succ]
      refine wpAnyH_take (i := 8) (oi := _) (v := ?_) (nth_at rfl) (by kernel_rfl) (by kernel_rfl) (by kernel_rfl) (fun _ _ _ h => h) (Or.inl ⟨by rfl, ?_⟩) (by assumption) ?_
      rotate_left 1
      · intro w hSw; (try dsimp only at hSw); (go_simp <;> with_reducible rfl)
      try simp only [Act.put, List.setIfInBounds_toArray, List.set_cons_zero, List.set_cons_succ]
      refine wpAnyH_ready (rs := [4]) (by kernel_rfl) (by simp) ?_
      refine AllReadyH.cons (o := _) (nth_at rfl) (fun K hK => ?_) AllReadyH.nil
      go_simp
      with_reducible refine (HC1 _).mono ?_
      rintro e w7 ⟨rfl, b7⟩
      have D7 := hBd.trans (b7.mono hBd.size)
      refine hK.out _ _ ?_ (fun hHeld => ?_)
      · exact SK.out _ D7
      clear hK K
      try simp only [Act.put, List.setIfInBounds_toArray, List.set_cons_zero, List.set_cons_succ]
      refine wpAnyH_ready (rs := [9]) (by kernel_rfl) (by simp) ?_
      refine AllReadyH.cons (o := _) (nth_at rfl) (fun K hK => ?_) AllReadyH.nil
      go_simp
      with_reducible refine (HC2 _).mono ?_
      rintro e w8 ⟨rfl, b8⟩
      have D8 := D7.trans (b8.mono D7.size)
      refine hK.out _ _ ?_ (fun hHeld => ?_)
      · exact SK.out _ D8
      clear hK K
      try simp only [Act.put, List.setIfInBounds_toArray, List.set_cons_zero, List.set_cons_succ]
      refine wpAnyH_take (i := 10) (oi := _) (v := ?_) (nth_at rfl) (by kernel_rfl) (by kernel_rfl) (by kernel_rfl) (fun _ _ _ h => h) (Or.inl ⟨by rfl, ?_⟩) (by assumption) ?_
      rotate_left 1
      · intro w hSw; (try dsimp only at hSw); (go_simp <;> with_reducible rfl)
      try simp only [Act.put, List.setIfInBounds_toArray, List.set_cons_zero, List.set_cons_succ]
      refine wpAnyH_done (by kernel_rfl) ?_ _
      refine NoPanic.normal ?_
      go_wp2_with fail
      go_roundg (F.length - (kk + 1))
      case measure => omega
      case rel => exact ⟨kk + 1, by omega, by omega, by go_num, D8⟩
    · have hltz : ¬ (kk : Int) < (F.length : Int) := by omega
      replace V2 := V2.keep (KeepC.of_below hB)
      have BW := B4x.trans (hB.mono B4x.size)
      have rr3 := r3.below hB r3.lt
      have rr4 := r4.below hB r4.lt
      have nn2 := n2.below hB n2.lt
      have SS : Hid (∀ u, Below wr.heap.size wr u → (u.cell? ⟨x1, 0, none⟩ = some (.int .i64 id) ∧ u.cell? ⟨x1, 1, none⟩ = some (.int .i64 l1) ∧ u.cell? ⟨x1, 2, none⟩ = some (.int .u64 S1) ∧ u.cell? ⟨x1, 3, none⟩ = some (.int .i64 i1) ∧ u.cell? ⟨x1, 4, none⟩ = some (.int .i64 l2) ∧ u.cell? ⟨x1, 5, none⟩ = some (.int .u64 S2) ∧ u.cell? ⟨x1, 6, none⟩ = some (.int .i64 i2) ∧ u.cell? ⟨x1, 7, none⟩ = some (.int .i64 bu) ∧ u.cell? ⟨x1, 8, none⟩ = some (.int .i64 k) ∧ u.cell? ⟨x1, 9, none⟩ = some (.int .i64 m) ∧ u.cell? ⟨x1, 10, none⟩ = some (.string ⟨form.toArray⟩)) ∧ (u.cell? ⟨x2, 0, none⟩ = some (.int .i64 id) ∧ u.cell? ⟨x2, 1, none⟩ = some (.int .i64 l1) ∧ u.cell? ⟨x2, 2, none⟩ = some (.int .u64 S1) ∧ u.cell? ⟨x2, 3, none⟩ = some (.int .i64 i1) ∧ u.cell? ⟨x2, 4, none⟩ = some (.int .i64 l2) ∧ u.cell? ⟨x2, 5, none⟩ = some (.int .u64 S2) ∧ u.cell? ⟨x2, 6, none⟩ = some (.int .i64 i2) ∧ u.cell? ⟨x2, 7, none⟩ = some (.int .i64 bu) ∧ u.cell? ⟨x2, 8, none⟩ = some (.int .i64 k) ∧ u.cell? ⟨x2, 9, none⟩ = some (.int .i64 m) ∧ u.cell? ⟨x2, 10, none⟩ = some (.string ⟨form.toArray⟩)) ∧ (u.cell? ⟨w.heap.size, 0, none⟩ = some (.int .i64 la) ∧ u.cell? ⟨w.heap.size, 1, none⟩ = some (.int .u64 Sa) ∧ u.cell? ⟨w.heap.size, 2, none⟩ = some (.int .i64 ia))) := by
        show ∀ u, _
        intro u h
        have y1 := rr3.below h rr3.lt
        have y2 := rr4.below h rr4.lt
        have y3 := nn2.below h nn2.lt
        exact ⟨⟨(y1.cell 0).trans rfl, (y1.cell 1).trans rfl, (y1.cell 2).trans rfl, (y1.cell 3).trans rfl, (y1.cell 4).trans rfl, (y1.cell 5).trans rfl, (y1.cell 6).trans rfl, (y1.cell 7).trans rfl, (y1.cell 8).trans rfl, (y1.cell 9).trans rfl, (y1.cell 10).trans rfl⟩, ⟨(y2.cell 0).trans rfl, (y2.cell 1).trans rfl, (y2.cell 2).trans rfl, (y2.cell 3).trans rfl, (y2.cell 4).trans rfl, (y2.cell 5).trans rfl, (y2.cell 6).trans rfl, (y2.cell 7).trans rfl, (y2.cell 8).trans rfl, (y2.cell 9).trans rfl, (y2.cell 10).trans rfl⟩, (y3.cell 0).trans rfl, (y3.cell 1).trans rfl, (y3.cell 2).trans rfl⟩
      have D0 : Below wr.heap.size wr wr.drew := (Below.refl _ wr).drew
      replace V2 : RulesV wr.drew _ F := V2
      have BD := BW.drew
      clear hc hFq rr3 rr4 nn2 r3 r4 n2
      cases R with
      | true =>
        go_wp2_with fail
        refine wp_region_noPanic ?_
        refine wp_region_held_drew (S := (fun u => (u.cell? ⟨x1, 0, none⟩ = some (.int .i64 id) ∧ u.cell? ⟨x1, 1, none⟩ = some (.int .i64 l1) ∧ u.cell? ⟨x1, 2, none⟩ = some (.int .u64 S1) ∧ u.cell? ⟨x1, 3, none⟩ = some (.int .i64 i1) ∧ u.cell? ⟨x1, 4, none⟩ = some (.int .i64 l2) ∧ u.cell? ⟨x1, 5, none⟩ = some (.int .u64 S2) ∧ u.cell? ⟨x1, 6, none⟩ = some (.int .i64 i2) ∧ u.cell? ⟨x1, 7, none⟩ = some (.int .i64 bu) ∧ u.cell? ⟨x1, 8, none⟩ = some (.int .i64 k) ∧ u.cell? ⟨x1, 9, none⟩ = some (.int .i64 m) ∧ u.cell? ⟨x1, 10, none⟩ = some (.string ⟨form.toArray⟩)) ∧ (u.cell? ⟨x2, 0, none⟩ = some (.int .i64 id) ∧ u.cell? ⟨x2, 1, none⟩ = some (.int .i64 l1) ∧ u.cell? ⟨x2, 2, none⟩ = some (.int .u64 S1) ∧ u.cell? ⟨x2, 3, none⟩ = some (.int .i64 i1) ∧ u.cell? ⟨x2, 4, none⟩ = some (.int .i64 l2) ∧ u.cell? ⟨x2, 5, none⟩ = some (.int .u64 S2) ∧ u.cell? ⟨x2, 6, none⟩ = some (.int .i64 i2) ∧ u.cell? ⟨x2, 7, none⟩ = some (.int .i64 bu) ∧ u.cell? ⟨x2, 8, none⟩ = some (.int .i64 k) ∧ u.cell? ⟨x2, 9, none⟩ = some (.int .i64 m) ∧ u.cell? ⟨x2, 10, none⟩ = some (.string ⟨form.toArray⟩)) ∧ (u.cell? ⟨w.heap.size, 0, none⟩ = some (.int .i64 la) ∧ u.cell? ⟨w.heap.size, 1, none⟩ = some (.int .u64 Sa) ∧ u.cell? ⟨w.heap.size, 2, none⟩ = some (.int .i64 ia)))) (by kernel_rfl) ?_ (fun hHeld => ?_)
        · exact SS.out _ D0
        refine wpAnyH_take (i := 0) (oi := _) (v := ?_) (nth_at rfl) (by kernel_rfl) (by kernel_rfl) (by kernel_rfl) (fun _ _ _ h => h) (Or.inl ⟨by rfl, ?_⟩) (by assumption) ?_
        rotate_left 1
        · intro w hSw; (try dsimp only at hSw); (go_simp <;> with_reducible rfl)
        try simp only [Act.put, List.setIfInBounds_toArray, List.set_cons_zero, List.set_cons_succ]
        refine wpAnyH_take (i := 1) (oi := _) (v := ?_) (nth_at rfl) (by kernel_rfl) (by kernel_rfl) (by kernel_rfl) (fun _ _ _ h => h) (Or.inl ⟨by rfl, ?_⟩) (by assumption) ?_
        rotate_left 1
        · intro w hSw; (try dsimp only at hSw); (go_simp <;> with_reducible rfl)
        try simp only [Act.put, List.setIfInBounds_toArray, List.set_cons_zero, List.set_cons_succ]
        refine wpAnyH_take (i := 2) (oi := _) (v := ?_) (nth_at rfl) (by kernel_rfl) (by kernel_rfl) (by kernel_rfl) (fun _ _ _ h => h) (Or.inl ⟨by rfl, ?_⟩) (by assumption) ?_
        rotate_left 1
        · intro w hSw; (try dsimp only at hSw); (go_simp <;> with_reducible rfl)
        try simp only [Act.put, List.setIfInBounds_toArray, List.set_cons_zero, List.set_cons_succ]
        refine wpAnyH_take (i := 4) (oi := _) (v := ?_) (nth_at rfl) (by kernel_rfl) (by kernel_rfl) (by kernel_rfl) (fun _ _ _ h => h) (Or.inl ⟨by rfl, ?_⟩) (by assumption) ?_
        rotate_left 1
        · intro w hSw; (try dsimp only at hSw); (go_simp <;> with_reducible rfl)
        try simp only [Act.put, List.setIfInBounds_toArray, List.set_cons_zero, List.set_cons_succ]
        refine wpAnyH_ready (rs := [3]) (by kernel_rfl) (by simp) ?_
        refine AllReadyH.cons (o := _) (nth_at rfl) (fun K hK => ?_) AllReadyH.nil
        go_simp
        with_reducible refine (HR _ BD _ V2).mono ?_
        rintro e y5 ⟨rfl, b5⟩
        replace V2 := V2.keep (KeepC.of_below b5)
        have D5 := D0.trans (b5.mono D0.size)
        have E5 := BD.trans (b5.mono BD.size)
        refine hK.out _ _ ?_ (fun hHeld => ?_)
        · exact SS.out _ D5
        clear hK K
        try simp only [Act.put, List.setIfInBounds_toArray, List.set_cons_zero, List.set_cons_succ]
        refine wpAnyH_ready (rs := [5]) (by kernel_rfl) (by simp) ?_
        refine AllReadyH.cons (o := _) (nth_at rfl) (fun K hK => ?_) AllReadyH.nil
        go_simp
        with_reducible refine (HQ _ _ V2).mono ?_
        rintro e y6 ⟨rfl, b6⟩
        replace V2 := V2.keep (KeepC.of_below b6)
        have D6 := D5.trans (b6.mono D5.size)
        have E6 := E5.trans (b6.mono E5.size)
        refine hK.out _ _ ?_ (fun hHeld => ?_)
        · exact SS.out _ D6
        clear hK K
        try simp only [Act.put, List.setIfInBounds_toArray, List.set_cons_zero, List.set_cons_succ]
        refine wpAnyH_take (i := 6) (oi := _) (v := ?_) (nth_at rfl) (by kernel_rfl) (by kernel_rfl) (by kernel_rfl) (fun _ _ _ h => h) (Or.inl ⟨by rfl, ?_⟩) (by assumption) ?_
        rotate_left 1
        · intro w hSw; (try dsimp only at hSw); (go_simp <;> with_reducible rfl)
        try simp only [Act.put, List.setIfInBounds_toArray, List.set_cons_zero, List.set_cons_succ]
        refine wpAnyH_take (i := 7) (oi := _) (v := ?_) (nth_at rfl) (by kernel_rfl) (by kernel_rfl) (by kernel_rfl) (fun _ _ _ h => h) (Or.inl ⟨by rfl, ?_⟩) (by assumption) ?_
        rotate_left 1
        · intro w hSw; (try dsimp only at hSw); (go_simp <;> with_reducible rfl)
        try simp only [Act.put, List.setIfInBounds_toArray, List.set_cons_zero, List.set_cons_succ]
        refine wpAnyH_take (i := 8) (oi := _) (v := ?_) (nth_at rfl) (by kernel_rfl) (by kernel_rfl) (by kernel_rfl) (fun _ _ _ h => h) (Or.inl ⟨by rfl, ?_⟩) (by assumption) ?_
        rotate_left 1
        · intro w hSw; (try dsimp only at hSw); (go_simp <;> with_reducible rfl)
        try simp only [Act.put, List.setIfInBounds_toArray, List.set_cons_zero, List.set_cons_succ]
        refine wpAnyH_take (i := 9) (oi := _) (v := ?_) (nth_at rfl) (by kernel_rfl) (by kernel_rfl) (by kernel_rfl) (fun _ _ _ h => h) (Or.inl ⟨by rfl, ?_⟩) (by assumption) ?_
        rotate_left 1
        · intro w hSw; (try dsimp only at hSw); (go_simp <;> with_reducible rfl)
        try simp only [Act.put, List.setIfInBounds_toArray, List.set_cons_zero, List.set_cons_succ]
        refine wpAnyH_take (i := 10) (oi := _) (v := ?_) (nth_at rfl) (by kernel_rfl) (by kernel_rfl) (by kernel_rfl) (fun _ _ _ h => h) (Or.inl ⟨by rfl, ?_⟩) (by assumption) ?_
        rotate_left 1
        · intro w hSw; (try dsimp only at hSw); (go_simp <;> with_reducible rfl)
        try simp only [Act.put, List.setIfInBounds_toArray, List.set_cons_zero, List.set_cons_succ]
        refine wpAnyH_take (i := 11) (oi := _) (v := ?_) (nth_at rfl) (by kernel_rfl) (by kernel_rfl) (by kernel_rfl) (fun _ _ _ h => h) (Or.inl ⟨by rfl, ?_⟩) (by assumption) ?_
        rotate_left 1
        · intro w hSw; (try dsimp only at hSw); (go_simp <;> with_reducible rfl)
        try simp only [Act.put, List.setIfInBounds_toArray, List.set_cons_zero, List.set_cons_succ]
        refine wpAnyH_take (i := 12) (oi := _) (v := ?_) (nth_at rfl) (by kernel_rfl) (by kernel_rfl) (by kernel_rfl) (fun _ _ _ h => h) (Or.inl ⟨by rfl, ?_⟩) (by assumption) ?_
        rotate_left 1
        · intro w hSw; (try dsimp only at hSw); (go_simp <;> with_reducible rfl)
        try simp only [Act.put, List.setIfInBounds_toArray, List.set_cons_zero, List.set_cons_succ]
        refine wpAnyH_take (i := 13) (oi := _) (v := ?_) (nth_at rfl) (by kernel_rfl) (by kernel_rfl) (by kernel_rfl) (fun _ _ _ h => h) (Or.inl ⟨by rfl, ?_⟩) (by assumption) ?_
        rotate_left 1
        · intro w hSw; (try dsimp only at hSw); (go_simp <;> with_reducible rfl)
        try simp only [Act.put, List.setIfInBounds_toArray, List.set_cons_zero, List.set_cons_succ]
        refine wpAnyH_take (i := 14) (oi := _) (v := ?_) (nth_at rfl) (by kernel_rfl) (by kernel_rfl) (by kernel_rfl) (fun _ _ _ h => h) (Or.inl ⟨by rfl, ?_⟩) (by assumption) ?_
        rotate_left 1
        · intro w hSw; (try dsimp only at hSw); (go_simp <;> with_reducible rfl)
        try simp only [Act.put, List.setIfInBounds_toArray, List.set_cons_zero, List.set_cons_succ]
        refine wpAnyH_take (i := 15) (oi := _) (v := ?_) (nth_at rfl) (by kernel_rfl) (by kernel_rfl) (by kernel_rfl) (fun _ _ _ h => h) (Or.inl ⟨by rfl, ?_⟩) (by assumption) ?_
        rotate_left 1
        · intro w hSw; (try dsimp only at hSw); (go_simp <;> with_reducible rfl)
        try simp only [Act.put, List.setIfInBounds_toArray, List.set_cons_zero, List.set_cons_succ]
        refine wpAnyH_take (i := 16) (oi := _) (v := ?_) (nth_at rfl) (by kernel_rfl) (by kernel_rfl) (by kernel_rfl) (fun _ _ _ h => h) (Or.inl ⟨by rfl, ?_⟩) (by assumption) ?_
        rotate_left 1
        · intro w hSw; (try dsimp only at hSw); (go_simp <;> with_reducible rfl)
        try simp only [Act.put, List.setIfInBounds_toArray, List.set_cons_zero, List.set_cons_succ]
        refine wpAnyH_take (i := 17) (oi := _) (v := ?_) (nth_at rfl) (by kernel_rfl) (by kernel_rfl) (by kernel_rfl) (fun _ _ _ h => h) (Or.inl ⟨by rfl, ?_⟩) (by assumption) ?_
        rotate_left 1
        · intro w hSw; (try dsimp only at hSw); (go_simp <;> with_reducible rfl)
        try simp only [Act.put, List.setIfInBounds_toArray, List.set_cons_zero, List.set_cons_succ]
        refine wpAnyH_take (i := 18) (oi := _) (v := ?_) (nth_at rfl) (by kernel_rfl) (by kernel_rfl) (by kernel_rfl) (fun _ _ _ h => h) (Or.inl ⟨by rfl, ?_⟩) (by assumption) ?_
        rotate_left 1
        · intro w hSw; (try dsimp only at hSw); (go_simp <;> with_reducible rfl)
        try simp only [Act.put, List.setIfInBounds_toArray, List.set_cons_zero, List.set_cons_succ]
        refine wpAnyH_take (i := 19) (oi := _) (v := ?_) (nth_at rfl) (by kernel_rfl) (by kernel_rfl) (by kernel_rfl) (fun _ _ _ h => h) (Or.inl ⟨by rfl, ?_⟩) (by assumption) ?_
        rotate_left 1
        · intro w hSw; (try dsimp only at hSw); (go_simp <;> with_reducible rfl)
        try simp only [Act.put, List.setIfInBounds_toArray, List.set_cons_zero, List.set_cons_succ]
        refine wpAnyH_take (i := 20) (oi := _) (v := ?_) (nth_at rfl) (by kernel_rfl) (by kernel_rfl) (by kernel_rfl) (fun _ _ _ h => h) (Or.inl ⟨by rfl, ?_⟩) (by assumption) ?_
        rotate_left 1
        · intro w hSw; (try dsimp only at hSw); (go_simp <;> with_reducible rfl)
        try simp only [Act.put, List.setIfInBounds_toArray, List.set_cons_zero, List.set_cons_succ]
        refine wpAnyH_take (i := 22) (oi := _) (v := ?_) (nth_at rfl) (by kernel_rfl) (by kernel_rfl) (by kernel_rfl) (fun _ _ _ h => h) (Or.inl ⟨by rfl, ?_⟩) (by assumption) ?_
        rotate_left 1
        · intro w hSw; (try dsimp only at hSw); (go_simp <;> with_reducible rfl)
        try simp only [Act.put, List.setIfInBounds_toArray, List.set_cons_zero, List.set_cons_succ]
        refine wpAnyH_take (i := 23) (oi := _) (v := ?_) (nth_at rfl) (by kernel_rfl) (by kernel_rfl) (by kernel_rfl) (fun _ _ _ h => h) (Or.inl ⟨by rfl, ?_⟩) (by assumption) ?_
        rotate_left 1
        · intro w hSw; (try dsimp only at hSw); (go_simp <;> with_reducible rfl)
        try simp only [Act.put, List.setIfInBounds_toArray, List.set_cons_zero, List.set_cons_succ]
        refine wpAnyH_ready (rs := [21]) (by kernel_rfl) (by simp) ?_
        refine AllReadyH.cons (o := _) (nth_at rfl) (fun K hK => ?_) AllReadyH.nil
        go_simp
        with_reducible refine (HX _ _ V2).mono ?_
        rintro e y7 ⟨v8, rfl, o8, b7⟩
        replace V2 := V2.keep (KeepC.of_below b7)
        have U1 := RulesO.view o8
        obtain ⟨a8, c8, rfl⟩ := ruOwn_shape o8
        clear o8
        have D7 := D6.trans (b7.mono D6.size)
        have E7 := E6.trans (b7.mono E6.size)
        refine hK.out _ _ ?_ (fun hHeld => ?_)
        · exact SS.out _ D7
        clear hK K
        try simp only [Act.put, List.setIfInBounds_toArray, List.set_cons_zero, List.set_cons_succ]
        refine wpAnyH_ready (rs := [24]) (by kernel_rfl) (by simp) ?_
        refine AllReadyH.cons (o := _) (nth_at rfl) (fun K hK => ?_) AllReadyH.nil
        go_simp
        with_reducible refine (HY _ _ V2).mono ?_
        rintro e y8 ⟨v9, rfl, o9, b8⟩
        replace V2 := V2.keep (KeepC.of_below b8)
        replace U1 := U1.keep (KeepC.of_below b8)
        have U2 := RulesO.view o9
        obtain ⟨a9, c9, rfl⟩ := ruOwn_shape o9
        clear o9
        have D8 := D7.trans (b8.mono D7.size)
        have E8 := E7.trans (b8.mono E7.size)
        refine hK.out _ _ ?_ (fun hHeld => ?_)
        · exact SS.out _ D8
        clear hK K
        try simp only [Act.put, List.setIfInBounds_toArray, List.set_cons_zero, List.set_cons_succ]
        refine wpAnyH_ready (rs := [25]) (by kernel_rfl) (by simp) ?_
        refine AllReadyH.cons (o := _) (nth_at rfl) (fun K hK => ?_) AllReadyH.nil
        go_simp
        with_reducible refine (HS _ _ _ U1 U2).mono ?_
        rintro e y9 ⟨rfl, b9⟩
        replace V2 := V2.keep (KeepC.of_below b9)
        replace U1 := U1.keep (KeepC.of_below b9)
        replace U2 := U2.keep (KeepC.of_below b9)
        have D9 := D8.trans (b9.mono D8.size)
        have E9 := E8.trans (b9.mono E8.size)
        refine hK.out _ _ ?_ (fun hHeld => ?_)
        · exact SS.out _ D9
        clear hK K
        try simp only [Act.put, List.setIfInBounds_toArray, List.set_cons_zero, List.set_cons_succ]
        refine wpAnyH_take (i := 26) (oi := _) (v := ?_) (nth_at rfl) (by kernel_rfl) (by kernel_rfl) (by kernel_rfl) (fun _ _ _ h => h) (Or.inl ⟨by rfl, ?_⟩) (by assumption) ?_
        rotate_left 1
        · intro w hSw; (try dsimp only at hSw); (go_simp <;> with_reducible rfl)
        try simp only [Act.put, List.setIfInBounds_toArray, List.set_cons_zero, List.set_cons_succ]
        refine wpAnyH_take (i := 27) (oi := _) (v := ?_) (nth_at rfl) (by kernel_rfl) (by kernel_rfl) (by kernel_rfl) (fun _ _ _ h => h) (Or.inl ⟨by rfl, ?_⟩) (by assumption) ?_
        rotate_left 1
        · intro w hSw; (try dsimp only at hSw); (go_simp <;> with_reducible rfl)
        try simp only [Act.put, List.setIfInBounds_toArray, List.set_cons_zero, List.set_cons_succ]
        refine wpAnyH_done (by kernel_rfl) ?_ _
        refine NoPanic.normal ?_
        go_wp2_with fail
        go_ret
        exact ⟨rfl, E9⟩
      | false =>
        go_wp2_with fail
        refine wp_region_noPanic ?_
        refine wp_region_held_drew (S := (fun u => (u.cell? ⟨x1, 0, none⟩ = some (.int .i64 id) ∧ u.cell? ⟨x1, 1, none⟩ = some (.int .i64 l1) ∧ u.cell? ⟨x1, 2, none⟩ = some (.int .u64 S1) ∧ u.cell? ⟨x1, 3, none⟩ = some (.int .i64 i1) ∧ u.cell? ⟨x1, 4, none⟩ = some (.int .i64 l2) ∧ u.cell? ⟨x1, 5, none⟩ = some (.int .u64 S2) ∧ u.cell? ⟨x1, 6, none⟩ = some (.int .i64 i2) ∧ u.cell? ⟨x1, 7, none⟩ = some (.int .i64 bu) ∧ u.cell? ⟨x1, 8, none⟩ = some (.int .i64 k) ∧ u.cell? ⟨x1, 9, none⟩ = some (.int .i64 m) ∧ u.cell? ⟨x1, 10, none⟩ = some (.string ⟨form.toArray⟩)) ∧ (u.cell? ⟨x2, 0, none⟩ = some (.int .i64 id) ∧ u.cell? ⟨x2, 1, none⟩ = some (.int .i64 l1) ∧ u.cell? ⟨x2, 2, none⟩ = some (.int .u64 S1) ∧ u.cell? ⟨x2, 3, none⟩ = some (.int .i64 i1) ∧ u.cell? ⟨x2, 4, none⟩ = some (.int .i64 l2) ∧ u.cell? ⟨x2, 5, none⟩ = some (.int .u64 S2) ∧ u.cell? ⟨x2, 6, none⟩ = some (.int .i64 i2) ∧ u.cell? ⟨x2, 7, none⟩ = some (.int .i64 bu) ∧ u.cell? ⟨x2, 8, none⟩ = some (.int .i64 k) ∧ u.cell? ⟨x2, 9, none⟩ = some (.int .i64 m) ∧ u.cell? ⟨x2, 10, none⟩ = some (.string ⟨form.toArray⟩)) ∧ (u.cell? ⟨w.heap.size, 0, none⟩ = some (.int .i64 la) ∧ u.cell? ⟨w.heap.size, 1, none⟩ = some (.int .u64 Sa) ∧ u.cell? ⟨w.heap.size, 2, none⟩ = some (.int .i64 ia)))) (by kernel_rfl) ?_ (fun hHeld => ?_)
        · exact SS.out _ D0
        refine wpAnyH_take (i := 0) (oi := _) (v := ?_) (nth_at rfl) (by kernel_rfl) (by kernel_rfl) (by kernel_rfl) (fun _ _ _ h => h) (Or.inl ⟨by rfl, ?_⟩) (by assumption) ?_
        rotate_left 1
        · intro w hSw; (try dsimp only at hSw); (go_simp <;> with_reducible rfl)
        try simp only [Act.put, List.setIfInBounds_toArray, List.set_cons_zero, List.set_cons_succ]
        refine wpAnyH_take (i := 1) (oi := _) (v := ?_) (nth_at rfl) (by kernel_rfl) (by kernel_rfl) (by kernel_rfl) (fun _ _ _ h => h) (Or.inl ⟨by rfl, ?_⟩) (by assumption) ?_
        rotate_left 1
        · intro w hSw; (try dsimp only at hSw); (go_simp <;> with_reducible rfl)
        try simp only [Act.put, List.setIfInBounds_toArray, List.set_cons_zero, List.set_cons_succ]
        refine wpAnyH_take (i := 2) (oi := _) (v := ?_) (nth_at rfl) (by kernel_rfl) (by kernel_rfl) (by kernel_rfl) (fun _ _ _ h => h) (Or.inl ⟨by rfl, ?_⟩) (by assumption) ?_
        rotate_left 1
        · intro w hSw; (try dsimp only at hSw); (go_simp <;> with_reducible rfl)
        try simp only [Act.put, List.setIfInBounds_toArray, List.set_cons_zero, List.set_cons_succ]
        refine wpAnyH_take (i := 4) (oi := _) (v := ?_) (nth_at rfl) (by kernel_rfl) (by kernel_rfl) (by kernel_rfl) (fun _ _ _ h => h) (Or.inl ⟨by rfl, ?_⟩) (by assumption) ?_
        rotate_left 1
        · intro w hSw; (try dsimp only at hSw); (go_simp <;> with_reducible rfl)
        try simp only [Act.put, List.setIfInBounds_toArray, List.set_cons_zero, List.set_cons_succ]
        refine wpAnyH_ready (rs := [3]) (by kernel_rfl) (by simp) ?_
        refine AllReadyH.cons (o := _) (nth_at rfl) (fun K hK => ?_) AllReadyH.nil
        go_simp
        with_reducible refine (HR _ BD _ V2).mono ?_
        rintro e y5 ⟨rfl, b5⟩
        replace V2 := V2.keep (KeepC.of_below b5)
        have D5 := D0.trans (b5.mono D0.size)
        have E5 := BD.trans (b5.mono BD.size)
        refine hK.out _ _ ?_ (fun hHeld => ?_)
        · exact SS.out _ D5
        clear hK K
        try simp only [Act.put, List.setIfInBounds_toArray, List.set_cons_zero, List.set_cons_succ]
        refine wpAnyH_ready (rs := [5]) (by kernel_rfl) (by simp) ?_
        refine AllReadyH.cons (o := _) (nth_at rfl) (fun K hK => ?_) AllReadyH.nil
        go_simp
        with_reducible refine (HQ _ _ V2).mono ?_
        rintro e y6 ⟨rfl, b6⟩
        replace V2 := V2.keep (KeepC.of_below b6)
        have D6 := D5.trans (b6.mono D5.size)
        have E6 := E5.trans (b6.mono E5.size)
        refine hK.out _ _ ?_ (fun hHeld => ?_)
        · exact SS.out _ D6
        clear hK K
        try simp only [Act.put, List.setIfInBounds_toArray, List.set_cons_zero, List.set_cons_succ]
        refine wpAnyH_take (i := 6) (oi := _) (v := ?_) (nth_at rfl) (by kernel_rfl) (by kernel_rfl) (by kernel_rfl) (fun _ _ _ h => h) (Or.inl ⟨by rfl, ?_⟩) (by assumption) ?_
        rotate_left 1
        · intro w hSw; (try dsimp only at hSw); (go_simp <;> with_reducible rfl)
        try simp only [Act.put, List.setIfInBounds_toArray, List.set_cons_zero, List.set_cons_succ]
        refine wpAnyH_take (i := 7) (oi := _) (v := ?_) (nth_at rfl) (by kernel_rfl) (by kernel_rfl) (by kernel_rfl) (fun _ _ _ h => h) (Or.inl ⟨by rfl, ?_⟩) (by assumption) ?_
        rotate_left 1
        · intro w hSw; (try dsimp only at hSw); (go_simp <;> with_reducible rfl)
        try simp only [Act.put, List.setIfInBounds_toArray, List.set_cons_zero, List.set_cons_succ]
        refine wpAnyH_take (i := 8) (oi := _) (v := ?_) (nth_at rfl) (by kernel_rfl) (by kernel_rfl) (by kernel_rfl) (fun _ _ _ h => h) (Or.inl ⟨by rfl, ?_⟩) (by assumption) ?_
        rotate_left 1
        · intro w hSw; (try dsimp only at hSw); (go_simp <;> with_reducible rfl)
        try simp only [Act.put, List.setIfInBounds_toArray, List.set_cons_zero, List.set_cons_succ]
        refine wpAnyH_take (i := 9) (oi := _) (v := ?_) (nth_at rfl) (by kernel_rfl) (by kernel_rfl) (by kernel_rfl) (fun _ _ _ h => h) (Or.inl ⟨by rfl, ?_⟩) (by assumption) ?_
        rotate_left 1
        · intro w hSw; (try dsimp only at hSw); (go_simp <;> with_reducible rfl)
        try simp only [Act.put, List.setIfInBounds_toArray, List.set_cons_zero, List.set_cons_succ]
        refine wpAnyH_take (i := 10) (oi := _) (v := ?_) (nth_at rfl) (by kernel_rfl) (by kernel_rfl) (by kernel_rfl) (fun _ _ _ h => h) (Or.inl ⟨by rfl, ?_⟩) (by assumption) ?_
        rotate_left 1
        · intro w hSw; (try dsimp only at hSw); (go_simp <;> with_reducible rfl)
        try simp only [Act.put, List.setIfInBounds_toArray, List.set_cons_zero, List.set_cons_succ]
        refine wpAnyH_take (i := 11) (oi := _) (v := ?_) (nth_at rfl) (by kernel_rfl) (by kernel_rfl) (by kernel_rfl) (fun _ _ _ h => h) (Or.inl ⟨by rfl, ?_⟩) (by assumption) ?_
        rotate_left 1
        · intro w hSw; (try dsimp only at hSw); (go_simp <;> with_reducible rfl)
        try simp only [Act.put, List.setIfInBounds_toArray, List.set_cons_zero, List.set_cons_succ]
        refine wpAnyH_take (i := 12) (oi := _) (v := ?_) (nth_at rfl) (by kernel_rfl) (by kernel_rfl) (by kernel_rfl) (fun _ _ _ h => h) (Or.inl ⟨by rfl, ?_⟩) (by assumption) ?_
        rotate_left 1
        · intro w hSw; (try dsimp only at hSw); (go_simp <;> with_reducible rfl)
        try simp only [Act.put, List.setIfInBounds_toArray, List.set_cons_zero, List.set_cons_succ]
        refine wpAnyH_take (i := 13) (oi := _) (v := ?_) (nth_at rfl) (by kernel_rfl) (by kernel_rfl) (by kernel_rfl) (fun _ _ _ h => h) (Or.inl ⟨by rfl, ?_⟩) (by assumption) ?_
        rotate_left 1
        · intro w hSw; (try dsimp only at hSw); (go_simp <;> with_reducible rfl)
        try simp only [Act.put, List.setIfInBounds_toArray, List.set_cons_zero, List.set_cons_succ]
        refine wpAnyH_take (i := 14) (oi := _) (v := ?_) (nth_at rfl) (by kernel_rfl) (by kernel_rfl) (by kernel_rfl) (fun _ _ _ h => h) (Or.inl ⟨by rfl, ?_⟩) (by assumption) ?_
        rotate_left 1
        · intro w hSw; (try dsimp only at hSw); (go_simp <;> with_reducible rfl)
        try simp only [Act.put, List.setIfInBounds_toArray, List.set_cons_zero, List.set_cons_succ]
        refine wpAnyH_take (i := 15) (oi := _) (v := ?_) (nth_at rfl) (by kernel_rfl) (by kernel_rfl) (by kernel_rfl) (fun _ _ _ h => h) (Or.inl ⟨by rfl, ?_⟩) (by assumption) ?_
        rotate_left 1
        · intro w hSw; (try dsimp only at hSw); (go_simp <;> with_reducible rfl)
        try simp only [Act.put, List.setIfInBounds_toArray, List.set_cons_zero, List.set_cons_succ]
        refine wpAnyH_take (i := 16) (oi := _) (v := ?_) (nth_at rfl) (by kernel_rfl) (by kernel_rfl) (by kernel_rfl) (fun _ _ _ h => h) (Or.inl ⟨by rfl, ?_⟩) (by assumption) ?_
        rotate_left 1
        · intro w hSw; (try dsimp only at hSw); (go_simp <;> with_reducible rfl)
        try simp only [Act.put, List.setIfInBounds_toArray, List.set_cons_zero, List.set_cons_succ]
        refine wpAnyH_take (i := 17) (oi := _) (v := ?_) (nth_at rfl) (by kernel_rfl) (by kernel_rfl) (by kernel_rfl) (fun _ _ _ h => h) (Or.inl ⟨by rfl, ?_⟩) (by assumption) ?_
        rotate_left 1
        · intro w hSw; (try dsimp only at hSw); (go_simp <;> with_reducible rfl)
        try simp only [Act.put, List.setIfInBounds_toArray, List.set_cons_zero, List.set_cons_succ]
        refine wpAnyH_take (i := 18) (oi := _) (v := ?_) (nth_at rfl) (by kernel_rfl) (by kernel_rfl) (by kernel_rfl) (fun _ _ _ h => h) (Or.inl ⟨by rfl, ?_⟩) (by assumption) ?_
        rotate_left 1
        · intro w hSw; (try dsimp only at hSw); (go_simp <;> with_reducible rfl)
        try simp only [Act.put, List.setIfInBounds_toArray, List.set_cons_zero, List.set_cons_succ]
        refine wpAnyH_take (i := 19) (oi := _) (v := ?_) (nth_at rfl) (by kernel_rfl) (by kernel_rfl) (by kernel_rfl) (fun _ _ _ h => h) (Or.inl ⟨by rfl, ?_⟩) (by assumption) ?_
        rotate_left 1
        · intro w hSw; (try dsimp only at hSw); (go_simp <;> with_reducible rfl)
        try simp only [Act.put, List.setIfInBounds_toArray, List.set_cons_zero, List.set_cons_succ]
        refine wpAnyH_take (i := 20) (oi := _) (v := ?_) (nth_at rfl) (by kernel_rfl) (by kernel_rfl) (by kernel_rfl) (fun _ _ _ h => h) (Or.inl ⟨by rfl, ?_⟩) (by assumption) ?_
        rotate_left 1
        · intro w hSw; (try dsimp only at hSw); (go_simp <;> with_reducible rfl)
        try simp only [Act.put, List.setIfInBounds_toArray, List.set_cons_zero, List.set_cons_succ]
        refine wpAnyH_take (i := 22) (oi := _) (v := ?_) (nth_at rfl) (by kernel_rfl) (by kernel_rfl) (by kernel_rfl) (fun _ _ _ h => h) (Or.inl ⟨by rfl, ?_⟩) (by assumption) ?_
        rotate_left 1
        · intro w hSw; (try dsimp only at hSw); (go_simp <;> with_reducible rfl)
        try simp only [Act.put, List.setIfInBounds_toArray, List.set_cons_zero, List.set_cons_succ]
        refine wpAnyH_take (i := 23) (oi := _) (v := ?_) (nth_at rfl) (by kernel_rfl) (by kernel_rfl) (by kernel_rfl) (fun _ _ _ h => h) (Or.inl ⟨by rfl, ?_⟩) (by assumption) ?_
        rotate_left 1
        · intro w hSw; (try dsimp only at hSw); (go_simp <;> with_reducible rfl)
        try simp only [Act.put, List.setIfInBounds_toArray, List.set_cons_zero, List.set_cons_succ]
        refine wpAnyH_ready (rs := [21]) (by kernel_rfl) (by simp) ?_
        refine AllReadyH.cons (o := _) (nth_at rfl) (fun K hK => ?_) AllReadyH.nil
        go_simp
        with_reducible refine (HX _ _ V2).mono ?_
        rintro e y7 ⟨v8, rfl, o8, b7⟩
        replace V2 := V2.keep (KeepC.of_below b7)
        have U1 := RulesO.view o8
        obtain ⟨a8, c8, rfl⟩ := ruOwn_shape o8
        clear o8
        have D7 := D6.trans (b7.mono D6.size)
        have E7 := E6.trans (b7.mono E6.size)
        refine hK.out _ _ ?_ (fun hHeld => ?_)
        · exact SS.out _ D7
        clear hK K
        try simp only [Act.put, List.setIfInBounds_toArray, List.set_cons_zero, List.set_cons_succ]
        refine wpAnyH_ready (rs := [24]) (by kernel_rfl) (by simp) ?_
        refine AllReadyH.cons (o := _) (nth_at rfl) (fun K hK => ?_) AllReadyH.nil
        go_simp
        with_reducible refine (HY _ _ V2).mono ?_
        rintro e y8 ⟨v9, rfl, o9, b8⟩
        replace V2 := V2.keep (KeepC.of_below b8)
        replace U1 := U1.keep (KeepC.of_below b8)
        have U2 := RulesO.view o9
        obtain ⟨a9, c9, rfl⟩ := ruOwn_shape o9
        clear o9
        have D8 := D7.trans (b8.mono D7.size)
        have E8 := E7.trans (b8.mono E7.size)
        refine hK.out _ _ ?_ (fun hHeld => ?_)
        · exact SS.out _ D8
        clear hK K
        try simp only [Act.put, List.setIfInBounds_toArray, List.set_cons_zero, List.set_cons_succ]
        refine wpAnyH_ready (rs := [25]) (by kernel_rfl) (by simp) ?_
        refine AllReadyH.cons (o := _) (nth_at rfl) (fun K hK => ?_) AllReadyH.nil
        go_simp
        with_reducible refine (HS _ _ _ U1 U2).mono ?_
        rintro e y9 ⟨rfl, b9⟩
        replace V2 := V2.keep (KeepC.of_below b9)
        replace U1 := U1.keep (KeepC.of_below b9)
        replace U2 := U2.keep (KeepC.of_below b9)
        have D9 := D8.trans (b9.mono D8.size)
        have E9 := E8.trans (b9.mono E8.size)
        refine hK.out _ _ ?_ (fun hHeld => ?_)
        · exact SS.out _ D9
        clear hK K
        try simp only [Act.put, List.setIfInBounds_toArray, List.set_cons_zero, List.set_cons_succ]
        refine wpAnyH_take (i := 26) (oi := _) (v := ?_) (nth_at rfl) (by kernel_rfl) (by kernel_rfl) (by kernel_rfl) (fun _ _ _ h => h) (Or.inl ⟨by rfl, ?_⟩) (by assumption) ?_
        rotate_left 1
        · intro w hSw; (try dsimp only at hSw); (go_simp <;> with_reducible rfl)
        try simp only [Act.put, List.setIfInBounds_toArray, List.set_cons_zero, List.set_cons_succ]
        refine wpAnyH_take (i := 27) (oi := _) (v := ?_) (nth_at rfl) (by kernel_rfl) (by kernel_rfl) (by kernel_rfl) (fun _ _ _ h => h) (Or.inl ⟨by rfl, ?_⟩) (by assumption) ?_
        rotate_left 1
        · intro w hSw; (try dsimp only at hSw); (go_simp <;> with_reducible rfl)
        try simp only [Act.put, List.setIfInBounds_toArray, List.set_cons_zero, List.set_cons_succ]
        refine wpAnyH_done (by kernel_rfl) ?_ _
        refine NoPanic.normal ?_
        go_wp2_with fail
        go_ret
        exact ⟨rfl, E9⟩
end Go.Proofs.YtmmdpjliknmhgaaGreatDoor
