/- Joined: RfG; RfH; RfM; RfN -/
import Derived.Test.YthclfkhakmcnbaaGreatDoorJTK
import Derived.BigQuiet
import Derived.Deep.QuietTactic
import Derived.Test.YthclfkhakmcnbaaGreatDoorJTL
import Derived.Test.YthclfkhakmcnbaaGreatDoorJTY
import Derived.Test.YthclfkhakmcnbaaGreatDoorJTM
/- Walks of the reference, layer 9: Write, Read. -/
namespace Go.Proofs.YthclfkhakmcnbaaGreatDoor
open Go.RowKit Go.Shelf
attribute [local go_sem] Oper.semAt_some
theorem fileP_no {w w' : World} {b : Bool} {s : List UInt8} (h : b = false) (hb : Below w.heap.size w w') : fileP w b s (.returned (.tuple #[.string ⟨#[]⟩, .int .i64 90])) w' := by subst h; exact ⟨rfl, hb⟩
theorem fileP_ok {w w' : World} {b : Bool} {s : List UInt8} {x : ByteArray} (h : b = true) (hx : x = ⟨s.toArray⟩) (hb : Below w.heap.size w w') : fileP w b s (.returned (.tuple #[.string x, .int .i64 0])) w' := by subst h hx; exact ⟨rfl, hb⟩
set_option maxRecDepth 100000 in
set_option maxHeartbeats 4000000 in
theorem fWriteR_any (s t : List UInt8) (hs : s.length ≤ 1000000) (ht : t.length ≤ 1000000) (k : Int) (w : World) :
    Calls Tryz.prog 47 #[.string ⟨s.toArray⟩, .int .i64 k, .string ⟨t.toArray⟩] w (fileP w (fwriteB s k t) (fwriteL s k t)) := by
  have hz1 := ba_size s
  have hz2 := ba_size t
  have hNO := Lib.hid (fun h w' => fileP_no (w := w) (w' := w') (b := fwriteB s k t) (s := fwriteL s k t) h)
  have hOK := Lib.hid (fun h w' x => fileP_ok (w := w) (w' := w') (b := fwriteB s k t) (s := fwriteL s k t) (x := x) h)
  have hb : Hid (fwriteB s k t = ((decide (s.length ≤ 1000) && (decide (0 ≤ k) && decide (k ≤ s.length))) && decide (k + t.length ≤ 1000))) := fwriteB_eq s t k
  by_cases h1 : s.length ≤ 1000
  rotate_left 1
  · have hN := Lib.hid (hNO.out (by rw [hb.out]; simp [h1]))
    have g1 : (1000 : Int) < (s.length : Int) := by omega
    clear hNO hOK hb h1
    go_enter Tryz.func47, Tryz.ntmps47
    go_wp2_with fail
    go_ret2
    exact hN.out _ (Below.refl _ _)
  · have g1 : ¬ (1000 : Int) < (s.length : Int) := by omega
    by_cases h2 : 0 ≤ k
    rotate_left 1
    · have hN := Lib.hid (hNO.out (by rw [hb.out]; simp [h2]))
      have g2 : k < 0 := by omega
      clear hNO hOK hb h1 h2
      go_enter Tryz.func47, Tryz.ntmps47
      go_wp2_with fail
      go_ret2
      exact hN.out _ (Below.refl _ _)
    · obtain ⟨kk, rfl⟩ : ∃ kk : Nat, k = kk := ⟨k.toNat, by omega⟩
      have g2 : ¬ ((kk : Int) < 0) := by omega
      by_cases h3 : (kk : Int) ≤ s.length
      rotate_left 1
      · have hN := Lib.hid (hNO.out (by rw [hb.out]; simp [h3]))
        have g3 : (s.length : Int) < (kk : Int) := by omega
        clear hNO hOK hb h1 h2 h3
        go_enter Tryz.func47, Tryz.ntmps47
        go_wp2_with fail
        go_ret2
        exact hN.out _ (Below.refl _ _)
      · have g3 : ¬ (s.length : Int) < (kk : Int) := by omega
        have hw1 : IntKind.i64.wrap (1000 - (kk : Int)) = 1000 - (kk : Int) := IntWalk.i64_in _ (by omega)
        by_cases h4 : (kk : Int) + t.length ≤ 1000
        rotate_left 1
        · have hN := Lib.hid (hNO.out (by rw [hb.out]; simp [h4]))
          have g4 : 1000 - (kk : Int) < (t.length : Int) := by omega
          clear hNO hOK hb h1 h2 h3 h4
          go_enter Tryz.func47, Tryz.ntmps47
          go_wp2_with fail
          go_ret2
          exact hN.out _ (Below.refl _ _)
        · have hO := hOK.out (by rw [hb.out]; simp [h1, h3, h4])
          have g4 : ¬ (1000 - (kk : Int) < (t.length : Int)) := by omega
          have hw2 : IntKind.i64.wrap ((kk : Int) + (t.length : Int)) = (kk : Int) + (t.length : Int) := IntWalk.i64_in _ (by omega)
          obtain ⟨mm, hmm⟩ : ∃ mm : Nat, min (s.length : Int) ((kk : Int) + (t.length : Int)) = (mm : Int) := ⟨min s.length (kk + t.length), by omega⟩
          have hm1 : (mm : Int) ≤ (s.length : Int) := by omega
          have hkn : (kk : Int) ≤ (s.length : Int) := h3
          have hL : Hid (s.take kk ++ (t ++ List.take (s.length - mm) (s.drop mm)) = fwriteL s kk t) := by
            show _ = _
            unfold fwriteL
            rw [Int.toNat_natCast, List.take_of_length_le (l := s.drop mm) (by rw [List.length_drop]; omega)]
            congr 2
            by_cases h : kk + t.length ≤ s.length
            · congr 1; omega
            · rw [List.drop_of_length_le (by omega), List.drop_of_length_le (by omega)]
          have hOH := Lib.hid hO
          clear hNO hOK hb h1 h2 h3 h4 hO
          go_enter Tryz.func47, Tryz.ntmps47
          go_wp2_with fail
          go_quiet (fail)
          go_wp2_with fail
          go_ret2
          exact hOH.out _ _ (by rw [hL.out]) (below_drewN (Below.refl _ _) _)
set_option maxRecDepth 100000 in
set_option maxHeartbeats 4000000 in
theorem fReadR_any (s : List UInt8) (hs : s.length ≤ 1000000) (k n : Int) (w : World) :
    Calls Tryz.prog 54 #[.string ⟨s.toArray⟩, .int .i64 k, .int .i64 n] w (fileP w (freadB s k n) (freadL s k n)) := by
  have hz1 := ba_size s
  have hNO := Lib.hid (fun h w' => fileP_no (w := w) (w' := w') (b := freadB s k n) (s := freadL s k n) h)
  have hOK := Lib.hid (fun h w' x => fileP_ok (w := w) (w' := w') (b := freadB s k n) (s := freadL s k n) (x := x) h)
  have hb : Hid (freadB s k n = (decide (s.length ≤ 1000) && decide (0 ≤ k) && decide (k ≤ s.length) && decide (0 ≤ n))) := rfl
  by_cases h1 : s.length ≤ 1000
  rotate_left 1
  · have hN := Lib.hid (hNO.out (by rw [hb.out]; simp [h1]))
    have g1 : (1000 : Int) < (s.length : Int) := by omega
    clear hNO hOK hb h1
    go_enter Tryz.func54, Tryz.ntmps54
    go_wp2_with fail
    go_ret2
    exact hN.out _ (Below.refl _ _)
  · have g1 : ¬ (1000 : Int) < (s.length : Int) := by omega
    by_cases h2 : 0 ≤ k
    rotate_left 1
    · have hN := Lib.hid (hNO.out (by rw [hb.out]; simp [h2]))
      have g2 : k < 0 := by omega
      clear hNO hOK hb h1 h2
      go_enter Tryz.func54, Tryz.ntmps54
      go_wp2_with fail
      go_ret2
      exact hN.out _ (Below.refl _ _)
    · obtain ⟨kk, rfl⟩ : ∃ kk : Nat, k = kk := ⟨k.toNat, by omega⟩
      have g2 : ¬ ((kk : Int) < 0) := by omega
      by_cases h3 : (kk : Int) ≤ s.length
      rotate_left 1
      · have hN := Lib.hid (hNO.out (by rw [hb.out]; simp [h3]))
        have g3 : (s.length : Int) < (kk : Int) := by omega
        clear hNO hOK hb h1 h2 h3
        go_enter Tryz.func54, Tryz.ntmps54
        go_wp2_with fail
        go_ret2
        exact hN.out _ (Below.refl _ _)
      · have g3 : ¬ (s.length : Int) < (kk : Int) := by omega
        by_cases h4 : 0 ≤ n
        rotate_left 1
        · have hN := Lib.hid (hNO.out (by rw [hb.out]; simp [h4]))
          have g4 : n < 0 := by omega
          clear hNO hOK hb h1 h2 h3 h4
          go_enter Tryz.func54, Tryz.ntmps54
          go_wp2_with fail
          go_ret2
          exact hN.out _ (Below.refl _ _)
        · have hO := hOK.out (by rw [hb.out]; simp [h1, h3, h4])
          obtain ⟨nn, rfl⟩ : ∃ nn : Nat, n = nn := ⟨n.toNat, by omega⟩
          have g4 : ¬ ((nn : Int) < 0) := by omega
          have hw1 : IntKind.i64.wrap ((s.length : Int) - (kk : Int)) = (s.length : Int) - (kk : Int) := IntWalk.i64_in _ (by omega)
          obtain ⟨mm, hmm⟩ : ∃ mm : Nat, min (nn : Int) ((s.length : Int) - (kk : Int)) = (mm : Int) := ⟨min nn (s.length - kk), by omega⟩
          have hw2 : IntKind.i64.wrap ((kk : Int) + (mm : Int)) = ((kk + mm : Nat) : Int) := by rw [IntWalk.i64_in _ (by omega)]; omega
          have hm1 : ((kk + mm : Nat) : Int) ≤ (s.length : Int) := by omega
          have hm2 : (kk : Int) ≤ ((kk + mm : Nat) : Int) := by omega
          have hL : Hid (List.take (kk + mm - kk) (s.drop kk) = freadL s kk nn) := by
            show _ = _
            unfold freadL
            rw [Int.toNat_natCast, Int.toNat_natCast, Nat.add_sub_cancel_left]
            by_cases h : nn ≤ s.length - kk
            · congr 1; omega
            · rw [List.take_of_length_le (by rw [List.length_drop]; omega), List.take_of_length_le (by rw [List.length_drop]; omega)]
          have hOH := Lib.hid hO
          clear hNO hOK hb h1 h2 h3 h4 hO
          generalize hkm : kk + mm = km at *
          go_enter Tryz.func54, Tryz.ntmps54
          go_wp2_with fail
          go_ret2
          exact hOH.out _ _ (by rw [← hL.out]) (Below.refl _ _)
end Go.Proofs.YthclfkhakmcnbaaGreatDoor
/- Walks of the reference, layer 9: Cut. -/
namespace Go.Proofs.YthclfkhakmcnbaaGreatDoor
open Go.RowKit Go.Shelf
attribute [local go_sem] Oper.semAt_some
set_option maxRecDepth 100000 in
set_option maxHeartbeats 4000000 in
theorem fCutR_any (s : List UInt8) (hs : s.length ≤ 1000000) (n : Int) (w : World) :
    Calls Tryz.prog 57 #[.string ⟨s.toArray⟩, .int .i64 n] w (fileP w (fcutB s n) (fcutL s n)) := by
  have hz1 := ba_size s
  have hNO := Lib.hid (fun h w' => fileP_no (w := w) (w' := w') (b := fcutB s n) (s := fcutL s n) h)
  have hOK := Lib.hid (fun h w' x => fileP_ok (w := w) (w' := w') (b := fcutB s n) (s := fcutL s n) (x := x) h)
  have hb : Hid (fcutB s n = (decide (s.length ≤ 1000) && decide (0 ≤ n) && decide (n ≤ 1000))) := rfl
  by_cases h1 : s.length ≤ 1000
  rotate_left 1
  · have hN := Lib.hid (hNO.out (by rw [hb.out]; simp [h1]))
    have g1 : (1000 : Int) < (s.length : Int) := by omega
    clear hNO hOK hb h1
    go_enter Tryz.func57, Tryz.ntmps57
    go_wp2_with fail
    go_ret2
    exact hN.out _ (Below.refl _ _)
  · have g1 : ¬ (1000 : Int) < (s.length : Int) := by omega
    by_cases h2 : 0 ≤ n
    rotate_left 1
    · have hN := Lib.hid (hNO.out (by rw [hb.out]; simp [h2]))
      have g2 : n < 0 := by omega
      clear hNO hOK hb h1 h2
      go_enter Tryz.func57, Tryz.ntmps57
      go_wp2_with fail
      go_ret2
      exact hN.out _ (Below.refl _ _)
    · obtain ⟨nn, rfl⟩ : ∃ nn : Nat, n = nn := ⟨n.toNat, by omega⟩
      have g2 : ¬ ((nn : Int) < 0) := by omega
      by_cases h3 : (nn : Int) ≤ 1000
      rotate_left 1
      · have hN := Lib.hid (hNO.out (by rw [hb.out]; simp [h3]))
        have g3 : (1000 : Int) < (nn : Int) := by omega
        clear hNO hOK hb h1 h2 h3
        go_enter Tryz.func57, Tryz.ntmps57
        go_wp2_with fail
        go_ret2
        exact hN.out _ (Below.refl _ _)
      · have g3 : ¬ (1000 : Int) < (nn : Int) := by omega
        have hO := hOK.out (by rw [hb.out]; simp [h1, h3])
        obtain ⟨mm, hmm⟩ : ∃ mm : Nat, min (nn : Int) (s.length : Int) = (mm : Int) := ⟨min nn s.length, by omega⟩
        have hm1 : (mm : Int) ≤ (s.length : Int) := by omega
        obtain ⟨rr, hrr⟩ : ∃ rr : Nat, nn - s.length = rr := ⟨_, rfl⟩
        have hw1 : IntKind.i64.wrap ((nn : Int) - (s.length : Int)) = (nn : Int) - (s.length : Int) := IntWalk.i64_in _ (by omega)
        have hmx : max 0 ((nn : Int) - (s.length : Int)) = (rr : Int) := by omega
        have hrb : rr ≤ 1000 := by omega
        have hmk := fun W => run_make_row' (P := Tryz.prog) 107 5 (.int .u8 0) 1 Tryz.underlying107 infoU8 rfl .i64 .i64 rr (by omega) (by omega) W
        have hL : Hid (s.take mm ++ List.replicate rr 0 = fcutL s nn) := by
          show _ = _
          unfold fcutL
          rw [Int.toNat_natCast, hrr]
          congr 1
          by_cases h : nn ≤ s.length
          · congr 1; omega
          · rw [List.take_of_length_le (by omega), List.take_of_length_le (by omega)]
        have hOH := Lib.hid hO
        obtain ⟨W1, hW1⟩ : ∃ W1, w.drew.alloc (.cells (madeCells #[.int .u8 0] rr) 5) = W1 := ⟨_, rfl⟩
        have hmk1 := hmk w.drew
        rw [hW1] at hmk1
        have hX1 : Below w.heap.size w W1 := by rw [← hW1]; exact (Below.refl w.heap.size w).drew.alloc (Nat.le_refl _) _
        have hX3 : ∀ (j : Nat) u, (u8C (List.replicate rr 0))[j]? = some u → W1.cell? ⟨w.heap.size, j, none⟩ = some u := by rw [← hW1]; exact made_at w.drew rr _
        have hconv : (convert 107 9 (.slice (some ⟨w.heap.size, 0, none⟩) rr rr)).run Tryz.prog W1 = .ok (.string ⟨(List.replicate rr 0).toArray⟩) W1 := by
          have hcb := conv_bytes (P := Tryz.prog) W1 107 9 5 ⟨w.heap.size, 0, none⟩ rr (List.replicate rr 0) Tryz.underlying107 Tryz.underlying5 Tryz.underlying9 fun j hj => by
            rw [Addr.add_lit, Nat.zero_add]
            rw [hX3 j (.int .u8 0) (by simp only [u8C, List.map_replicate]; rw [List.getElem?_replicate, if_pos (by simpa using hj)]; rfl)]
            simp
          rw [List.length_replicate] at hcb
          exact hcb
        have hsum : ¬ (9223372036854775807 < min mm s.length + rr) := by omega
        have hZl : (List.replicate rr (0 : UInt8)).length = rr := by simp
        clear hNO hOK hb h1 h2 h3 hO hrr hmk hX3 hrb hW1
        generalize List.replicate rr (0 : UInt8) = Z at *
        go_enter Tryz.func57, Tryz.ntmps57
        go_wp2_with fail
        refine wp_region_noPanic ?_
        refine wp_region_any (by kernel_rfl) ?_
        change wpAny _ _ _ _ _ _ _ (World.drew _)
        refine wpAny_take (i := 0) (oi := _) (v := ?_) (nth_at rfl) (by kernel_rfl) (by kernel_rfl) (by kernel_rfl) (fun _ _ _ h => h) (Or.inl ⟨by rfl, ?_⟩) ?_
        rotate_left 1
        · intro w; (go_simp <;> with_reducible rfl)
        try simp only [Act.put, List.setIfInBounds_toArray, List.set_cons_zero, List.set_cons_succ]
        refine wpAny_take (i := 1) (oi := _) (v := ?_) (nth_at rfl) (by kernel_rfl) (by kernel_rfl) (by kernel_rfl) (fun _ _ _ h => h) (Or.inl ⟨by rfl, ?_⟩) ?_
        rotate_left 1
        · intro w; (go_simp <;> with_reducible rfl)
        try simp only [Act.put, List.setIfInBounds_toArray, List.set_cons_zero, List.set_cons_succ]
        refine wpAny_take (i := 2) (oi := _) (v := ?_) (nth_at rfl) (by kernel_rfl) (by kernel_rfl) (by kernel_rfl) (fun _ _ _ h => h) (Or.inl ⟨by rfl, ?_⟩) ?_
        rotate_left 1
        · intro w; (go_simp <;> with_reducible rfl)
        try simp only [Act.put, List.setIfInBounds_toArray, List.set_cons_zero, List.set_cons_succ]
        refine wpAny_take (i := 3) (oi := _) (v := ?_) (nth_at rfl) (by kernel_rfl) (by kernel_rfl) (by kernel_rfl) (fun _ _ _ h => h) (Or.inl ⟨by rfl, ?_⟩) ?_
        rotate_left 1
        · intro w; (go_simp <;> with_reducible rfl)
        try simp only [Act.put, List.setIfInBounds_toArray, List.set_cons_zero, List.set_cons_succ]
        refine wpAny_take (i := 4) (oi := _) (v := ?_) (nth_at rfl) (by kernel_rfl) (by kernel_rfl) (by kernel_rfl) (fun _ _ _ h => h) (Or.inl ⟨by rfl, ?_⟩) ?_
        rotate_left 1
        · intro w; (go_simp <;> with_reducible rfl)
        try simp only [Act.put, List.setIfInBounds_toArray, List.set_cons_zero, List.set_cons_succ]
        refine wpAny_take (i := 5) (oi := _) (v := ?_) (nth_at rfl) (by kernel_rfl) (by kernel_rfl) (by kernel_rfl) (fun _ _ _ h => h) (Or.inl ⟨by rfl, ?_⟩) ?_
        rotate_left 1
        · intro w; (go_simp <;> with_reducible rfl)
        try simp only [Act.put, List.setIfInBounds_toArray, List.set_cons_zero, List.set_cons_succ]
        refine wpAny_take (i := 6) (oi := _) (v := ?_) (nth_at rfl) (by kernel_rfl) (by kernel_rfl) (by kernel_rfl) (fun _ _ _ h => h) (Or.inl ⟨by rfl, ?_⟩) ?_
        rotate_left 1
        · intro w; (go_simp <;> with_reducible rfl)
        try simp only [Act.put, List.setIfInBounds_toArray, List.set_cons_zero, List.set_cons_succ]
        refine wpAny_take (i := 7) (oi := _) (v := ?_) (nth_at rfl) (by kernel_rfl) (by kernel_rfl) (by kernel_rfl) (fun _ _ _ h => h) (Or.inl ⟨by rfl, ?_⟩) ?_
        rotate_left 1
        · intro w; (go_simp <;> with_reducible rfl)
        try simp only [Act.put, List.setIfInBounds_toArray, List.set_cons_zero, List.set_cons_succ]
        refine wpAny_take (i := 8) (oi := _) (v := ?_) (nth_at rfl) (by kernel_rfl) (by kernel_rfl) (by kernel_rfl) (fun _ _ _ h => h) (Or.inl ⟨by rfl, ?_⟩) ?_
        rotate_left 1
        · intro w; (go_simp <;> with_reducible rfl)
        try simp only [Act.put, List.setIfInBounds_toArray, List.set_cons_zero, List.set_cons_succ]
        refine wpAny_take (i := 9) (oi := _) (v := ?_) (nth_at rfl) (by kernel_rfl) (by kernel_rfl) (by kernel_rfl) (fun _ _ _ h => h) (Or.inl ⟨by rfl, ?_⟩) ?_
        rotate_left 1
        · intro w; (go_simp <;> with_reducible rfl)
        try simp only [Act.put, List.setIfInBounds_toArray, List.set_cons_zero, List.set_cons_succ]
        refine wpAny_take (i := 10) (oi := _) (v := ?_) (nth_at rfl) (by kernel_rfl) (by kernel_rfl) (by kernel_rfl) (fun _ _ _ h => h) (Or.inl ⟨by rfl, ?_⟩) ?_
        rotate_left 1
        · intro w; (go_simp <;> with_reducible rfl)
        try simp only [Act.put, List.setIfInBounds_toArray, List.set_cons_zero, List.set_cons_succ]
        refine wpAny_ready (rs := [11]) (by kernel_rfl) (by simp) ?_
        refine AllReady.cons (o := _) (nth_at rfl) (fun K hK => ?_) AllReady.nil
        go_simp
        refine hK _ _ ?_
        clear hK K
        try simp only [Act.put, List.setIfInBounds_toArray, List.set_cons_zero, List.set_cons_succ]
        refine wpAny_ready (rs := [12]) (by kernel_rfl) (by simp) ?_
        refine AllReady.cons (o := _) (nth_at rfl) (fun K hK => ?_) AllReady.nil
        go_simp
        refine hK _ _ ?_
        clear hK K
        try simp only [Act.put, List.setIfInBounds_toArray, List.set_cons_zero, List.set_cons_succ]
        refine wpAny_take (i := 13) (oi := _) (v := ?_) (nth_at rfl) (by kernel_rfl) (by kernel_rfl) (by kernel_rfl) (fun _ _ _ h => h) (Or.inl ⟨by rfl, ?_⟩) ?_
        rotate_left 1
        · intro w; (go_simp <;> with_reducible rfl)
        try simp only [Act.put, List.setIfInBounds_toArray, List.set_cons_zero, List.set_cons_succ]
        refine wpAny_take (i := 14) (oi := _) (v := ?_) (nth_at rfl) (by kernel_rfl) (by kernel_rfl) (by kernel_rfl) (fun _ _ _ h => h) (Or.inl ⟨by rfl, ?_⟩) ?_
        rotate_left 1
        · intro w; (go_simp <;> with_reducible rfl)
        try simp only [Act.put, List.setIfInBounds_toArray, List.set_cons_zero, List.set_cons_succ]
        refine wpAny_take (i := 15) (oi := _) (v := ?_) (nth_at rfl) (by kernel_rfl) (by kernel_rfl) (by kernel_rfl) (fun _ _ _ h => h) (Or.inl ⟨by rfl, ?_⟩) ?_
        rotate_left 1
        · intro w; (go_simp <;> with_reducible rfl)
        try simp only [Act.put, List.setIfInBounds_toArray, List.set_cons_zero, List.set_cons_succ]
        refine wpAny_done (by kernel_rfl) ?_ _
        refine NoPanic.normal ?_
        go_wp2_with fail
        go_ret2
        exact hOH.out _ _ (by rw [← hL.out]) hX1
end Go.Proofs.YthclfkhakmcnbaaGreatDoor
/- Walks of the reference, layer 10: data, Write, Read, Cut. -/
namespace Go.Proofs.YthclfkhakmcnbaaGreatDoor
open Go.RowKit Go.Shelf
attribute [local go_sem] Oper.semAt_some
/-- a copy of an object, its data being other ones: what the cells read as -/
theorem data_copy (W2 : World) (x : ObjD) (s : List UInt8) (v4 : Value) :
    ∃ W4 W5, W2.alloc (.cells #[.string ⟨x.name.toArray⟩, .int .i64 x.kind, .string ⟨x.data.toArray⟩, .int .i64 x.max, v4] 48) = W4 ∧ W4.setCell ⟨W2.heap.size, 2, none⟩ (.string ⟨s.toArray⟩) = W5 ∧
      Below W2.heap.size W2 W5 ∧ W4.frozen? ⟨W2.heap.size, 2, none⟩ = false ∧ W4.cell? ⟨W2.heap.size, 2, none⟩ = some (.string ⟨x.data.toArray⟩) ∧
      (W5.cell? ⟨W2.heap.size, 0, none⟩ = some (.string ⟨x.name.toArray⟩) ∧ W5.cell? ⟨W2.heap.size, 1, none⟩ = some (.int .i64 x.kind) ∧ W5.cell? ⟨W2.heap.size, 2, none⟩ = some (.string ⟨s.toArray⟩) ∧ W5.cell? ⟨W2.heap.size, 3, none⟩ = some (.int .i64 x.max) ∧ W5.cell? ⟨W2.heap.size, 4, none⟩ = some v4) := by
  refine ⟨_, _, rfl, rfl, ?_⟩
  have o4 := Blk.new W2 #[.string ⟨x.name.toArray⟩, .int .i64 x.kind, .string ⟨x.data.toArray⟩, .int .i64 x.max, v4] 48
  have B4 := (Below.refl W2.heap.size W2).alloc (Nat.le_refl _) (.cells #[.string ⟨x.name.toArray⟩, .int .i64 x.kind, .string ⟨x.data.toArray⟩, .int .i64 x.max, v4] 48)
  generalize W2.alloc (.cells #[.string ⟨x.name.toArray⟩, .int .i64 x.kind, .string ⟨x.data.toArray⟩, .int .i64 x.max, v4] 48) = W4 at *
  have o5 := o4.set 2 (.string ⟨s.toArray⟩)
  have B5 := B4.setCell (p := ⟨W2.heap.size, 2, none⟩) (Nat.le_refl _) (.string ⟨s.toArray⟩)
  simp only [List.setIfInBounds_toArray, List.set_cons_zero, List.set_cons_succ] at o5
  exact ⟨B5, o4.frozen 2, (o4.cell 2).trans rfl, (o5.cell 0).trans rfl, (o5.cell 1).trans rfl, (o5.cell 2).trans rfl, (o5.cell 3).trans rfl, (o5.cell 4).trans rfl⟩
def rdataE (l : List ObjD) (q : Int) (i : Nat) (x : ObjD) : Int := if decide (q < costS (l.set i x)) && decide (costS l < costS (l.set i x)) then 104 else 0
set_option maxRecDepth 100000 in
set_option maxHeartbeats 4000000 in
theorem rdata_any (l : List ObjD) (hl : FitsS l) (v : Value) (qu : Int) (i : Nat) (hi : i < l.length) (s : List UInt8) (hs : s.length ≤ 1000) (w : World) (hv : ObjsV w v l) :
    Calls Tryz.prog 48 #[v, .int .i64 qu, .int .i64 i, .string ⟨s.toArray⟩] w (viewP w (if rdataE l qu i (withD s l[i]) = 0 then l.set i (withD s l[i]) else []) (rdataE l qu i (withD s l[i]))) := by
  obtain ⟨b, o, cap, a4, c4, rfl, hlv, hcells⟩ := objs_cells hv i hi
  obtain ⟨k0, k1, k2, k3, k4⟩ := hcells w (KeepC.refl w)
  have hge : (0 : Int) ≤ (i : Int) := by omega
  have hlt : (i : Int) < (l.length : Int) := by omega
  have fS : FitsS (l.set i (withD s l[i])) := ⟨by rw [List.length_set]; exact hl.1, fun y hy => by
    rcases List.mem_or_eq_of_mem_set hy with k | rfl
    · exact hl.2 y k
    · have := hl.2 _ (List.getElem_mem hi)
      exact ⟨this.1, Nat.le_trans hs (by decide), this.2.2⟩⟩
  have hdE : rdataE l qu i (withD s l[i]) = if decide (qu < costS (l.set i (withD s l[i]))) && decide (costS l < costS (l.set i (withD s l[i]))) then 104 else 0 := rfl
  have HSet := fun W (h : KeepC w W) (h2 : StrsV W (.slice a4 l[i].items.length c4) l[i].items) => rset_any l hl _ i hi (withD s l[i]) (.slice a4 l[i].items.length c4) W (hv.keep h) h2
  have HC1 := fun W v1 (h1 : ObjsV W v1 (l.set i (withD s l[i]))) => refCost_any _ fS v1 W h1
  have HC0 := fun W (h : KeepC w W) => refCost_any l hl _ W (hv.keep h)
  obtain ⟨W4, W5, hW4, hW5, C5, z2, y2, y50, y51, y52, y53, y54⟩ := data_copy w l[i] s (.slice a4 l[i].items.length c4)
  have HSx := HSet W5 (KeepC.of_below C5) (hlv.keep (KeepC.of_below C5))
  generalize rdataE l qu i (withD s l[i]) = E at *
  have hSl : (l.set i (withD s l[i])).length = l.length := List.length_set
  have hdEH := Lib.hid hdE
  have hSlH := Lib.hid hSl
  have HC1H := Lib.hid HC1
  have HC0H := Lib.hid HC0
  clear hdE hSl HC1 HC0 HSet hcells hlv hv fS
  generalize l.set i (withD s l[i]) = S at *
  unfold objV withD at HSx
  dsimp only at HSx
  generalize l[i].items.length = il at *
  generalize l[i].name = xn at *
  generalize l[i].kind = xk at *
  generalize l[i].data = xd at *
  generalize l[i].max = xm at *
  generalize costS l = c0 at *
  generalize costS S = c1 at *
  generalize hln : l.length = ln at *
  by_cases hq : qu < c1
  · rw [decide_eq_true hq, Bool.true_and] at hdEH
    by_cases hw : c0 < c1
    · rw [decide_eq_true hw] at hdEH
      have hE : E = 104 := hdEH.out
      subst hE
      simp only [if_neg (by decide : ¬ (104 : Int) = 0)]
      clear hdEH
      go_enter Tryz.func48, Tryz.ntmps48
      go_wp2_with fail
      refine HSx.mono ?_
      rintro e w6 ⟨v6, rfl, s6, b6⟩
      have B6 := C5.trans (b6.mono C5.size)
      go_wp2_with fail
      with_reducible refine (HC1H.out w6 _ s6).mono ?_
      rintro e w7 ⟨rfl, b7⟩
      have s7 := s6.keep (KeepC.of_below b7)
      have B7 := B6.trans (b7.mono B6.size)
      go_wp2_with fail
      with_reducible refine (HC1H.out w7 _ s7).mono ?_
      rintro e w8 ⟨rfl, b8⟩
      have B8 := B7.trans (b8.mono B7.size)
      go_wp2_with fail
      with_reducible refine (HC0H.out w8 (KeepC.of_below B8)).mono ?_
      rintro e w9 ⟨rfl, b9⟩
      go_wp2_with fail
      go_ret2
      exact ⟨_, rfl, ObjsV.nil _, B8.trans (b9.mono B8.size)⟩
    · rw [decide_eq_false hw] at hdEH
      have hE : E = 0 := hdEH.out
      subst hE
      simp only [if_true]
      clear hdEH
      go_enter Tryz.func48, Tryz.ntmps48
      go_wp2_with fail
      refine HSx.mono ?_
      rintro e w6 ⟨v6, rfl, s6, b6⟩
      have B6 := C5.trans (b6.mono C5.size)
      go_wp2_with fail
      with_reducible refine (HC1H.out w6 _ s6).mono ?_
      rintro e w7 ⟨rfl, b7⟩
      have s7 := s6.keep (KeepC.of_below b7)
      have B7 := B6.trans (b7.mono B6.size)
      go_wp2_with fail
      with_reducible refine (HC1H.out w7 _ s7).mono ?_
      rintro e w8 ⟨rfl, b8⟩
      have s8 := s7.keep (KeepC.of_below b8)
      have B8 := B7.trans (b8.mono B7.size)
      go_wp2_with fail
      with_reducible refine (HC0H.out w8 (KeepC.of_below B8)).mono ?_
      rintro e w9 ⟨rfl, b9⟩
      have s9 := s8.keep (KeepC.of_below b9)
      go_wp2_with fail
      go_ret2
      exact ⟨_, rfl, s9, B8.trans (b9.mono B8.size)⟩
  · rw [decide_eq_false hq, Bool.false_and] at hdEH
    have hE : E = 0 := hdEH.out
    subst hE
    simp only [if_true]
    clear hdEH
    go_enter Tryz.func48, Tryz.ntmps48
    go_wp2_with fail
    refine HSx.mono ?_
    rintro e w6 ⟨v6, rfl, s6, b6⟩
    have B6 := C5.trans (b6.mono C5.size)
    go_wp2_with fail
    with_reducible refine (HC1H.out w6 _ s6).mono ?_
    rintro e w7 ⟨rfl, b7⟩
    have s7 := s6.keep (KeepC.of_below b7)
    go_wp2_with fail
    go_ret2
    exact ⟨_, rfl, s7, B6.trans (b7.mono B6.size)⟩
end Go.Proofs.YthclfkhakmcnbaaGreatDoor
/- Walks of the reference, layer 10: Write, Read, Cut. -/
namespace Go.Proofs.YthclfkhakmcnbaaGreatDoor
open Go.RowKit Go.Shelf
attribute [local go_sem] Oper.semAt_some
theorem rdata_eq {l : List ObjD} {q : Int} {n s : List UInt8} (hed : editE l n 1 = 0) (hs : s.length ≤ 1000) (hi : idxS l n < l.length) : rdataE l q (idxS l n) (withD s l[idxS l n]) = dataE l q n true s ∧ (if rdataE l q (idxS l n) (withD s l[idxS l n]) = 0 then l.set (idxS l n) (withD s l[idxS l n]) else []) = dataS l q n true s := by
  obtain ⟨hsp, -, -⟩ := edit_zero.1 hed
  have hob : objB (objS l n) = true := (space_iff.1 hsp).2.1 _ (objS_mem hi)
  have hk1 : (objS l n).kind = 1 := edit_kind (by decide) hed
  have h1 : spaceB (setS l n (withD s)) = true := set_space hsp hi (fun _ => rfl) (withD_obj hob hk1 hs)
  have e1 : rdataE l q (idxS l n) (withD s l[idxS l n]) = dataE l q n true s := by
    have h2 := h1
    rw [set_modify _ hi, objS_at hi] at h2
    unfold rdataE dataE
    rw [if_pos hed, if_pos rfl, set_modify _ hi, objS_at hi, ← costS_of hsp, ← costS_of h2]
  refine ⟨e1, ?_⟩
  unfold dataS
  rw [e1, set_modify _ hi, objS_at hi]
theorem data_bad {l : List ObjD} {q : Int} {n s : List UInt8} (hed : editE l n 1 = 0) : dataE l q n false s = 90 ∧ dataS l q n false s = [] := by
  have e : dataE l q n false s = 90 := by unfold dataE; rw [if_pos hed]; rfl
  exact ⟨e, by unfold dataS; rw [e]; rfl⟩
theorem data_no {l : List ObjD} {q : Int} {n s : List UInt8} {b : Bool} (hed : ¬ editE l n 1 = 0) : dataE l q n b s = editE l n 1 ∧ dataS l q n b s = [] := by
  have e : dataE l q n b s = editE l n 1 := by unfold dataE; rw [if_neg hed]
  exact ⟨e, by unfold dataS; rw [e, if_neg hed]⟩
set_option maxRecDepth 100000 in
set_option maxHeartbeats 4000000 in
theorem WriteR_any (l : List ObjD) (hl : FitsS l) (v : Value) (qu : Int) (n : List UInt8) (k : Int) (t : List UInt8) (ht : t.length ≤ 1000000) (w : World) (hv : ObjsV w v l) :
    Calls Tryz.prog 15 #[v, .int .i64 qu, .string ⟨n.toArray⟩, .int .i64 k, .string ⟨t.toArray⟩] w (viewP w (writeS l qu n k t) (writeE l qu n k t)) := by
  have HF := rfind_any l hl v n 1 (by decide) w hv
  have hE : writeE l qu n k t = dataE l qu n (fwriteB (objS l n).data k t) (fwriteL (objS l n).data k t) := rfl
  have hS : writeS l qu n k t = dataS l qu n (fwriteB (objS l n).data k t) (fwriteL (objS l n).data k t) := rfl
  rw [hE, hS]
  clear hE hS
  by_cases hed : editE l n 1 = 0
  · obtain ⟨hsp, hi, -⟩ := edit_zero.1 hed
    rw [if_pos hed, hed] at HF
    have hdl : (objS l n).data.length ≤ 1000000 := by rw [objS_at hi]; have := (small_of hsp _ (List.getElem_mem hi)).2.1; omega
    have HP := fun W => fWriteR_any (objS l n).data t hdl ht k W
    have hge : (0 : Int) ≤ (idxS l n : Int) := by omega
    have hlt : (idxS l n : Int) < (l.length : Int) := by omega
    cases hb : fwriteB (objS l n).data k t with
    | false =>
      obtain ⟨e1, e2⟩ := data_bad (q := qu) (s := fwriteL (objS l n).data k t) hed
      rw [hb] at HP
      rw [e1, e2]
      unfold fileP at HP
      simp only [fL, fE, Bool.false_eq_true, if_false] at HP
      obtain ⟨b, o, cap, a4, c4, rfl, hlv, hcells⟩ := objs_cells hv _ hi
      rw [← objS_at hi] at hcells
      have hcH := Lib.hid hcells
      clear hcells hlv hv hsp hed e1 e2 hb
      generalize (objS l n).data = xd at *
      generalize (objS l n).items.length = il at *
      generalize (objS l n) = x at *
      generalize idxS l n = ix at *
      go_enter Tryz.func15, Tryz.ntmps15
      go_wp2_with fail
      with_reducible refine HF.mono ?_
      rintro e w1 ⟨rfl, b1⟩
      obtain ⟨-, -, k2, -, -⟩ := hcH.out _ (KeepC.of_below b1)
      go_wp2_with fail
      with_reducible refine (HP _).mono ?_
      rintro e w2 ⟨rfl, b2⟩
      go_wp2_with fail
      go_ret2
      exact ⟨_, rfl, ObjsV.nil _, b1.trans (b2.mono b1.size)⟩
    | true =>
      have hsl : (fwriteL (objS l n).data k t).length ≤ 1000 := fwrite_len hb
      obtain ⟨e1, e2⟩ := rdata_eq (q := qu) hed hsl hi
      have HD := fun W (h : KeepC w W) => rdata_any l hl v qu (idxS l n) hi (fwriteL (objS l n).data k t) hsl W (hv.keep h)
      rw [e2, e1] at HD
      rw [hb] at HP
      unfold fileP at HP
      simp only [fL, fE, if_true] at HP
      obtain ⟨b, o, cap, a4, c4, rfl, hlv, hcells⟩ := objs_cells hv _ hi
      rw [← objS_at hi] at hcells
      have hcH := Lib.hid hcells
      clear hcells hlv hv hsp hed e1 e2 hb hsl
      generalize dataE l qu n true (fwriteL (objS l n).data k t) = E at *
      generalize dataS l qu n true (fwriteL (objS l n).data k t) = S at *
      generalize fwriteL (objS l n).data k t = FLx at *
      generalize (objS l n).data = xd at *
      generalize (objS l n).items.length = il at *
      generalize (objS l n) = x at *
      generalize idxS l n = ix at *
      go_enter Tryz.func15, Tryz.ntmps15
      go_wp2_with fail
      with_reducible refine HF.mono ?_
      rintro e w1 ⟨rfl, b1⟩
      obtain ⟨-, -, k2, -, -⟩ := hcH.out _ (KeepC.of_below b1)
      go_wp2_with fail
      with_reducible refine (HP _).mono ?_
      rintro e w2 ⟨rfl, b2⟩
      have B2 := b1.trans (b2.mono b1.size)
      have HDx := HD _ (KeepC.of_below B2)
      unfold viewP at HDx
      clear HD HP HF hcH k2
      go_wp2_with fail
      with_reducible refine HDx.mono ?_
      rintro e w3 ⟨v3, rfl, s3, b3⟩
      go_wp2_with fail
      go_ret2
      exact ⟨_, rfl, s3, B2.trans (b3.mono B2.size)⟩
  · obtain ⟨e1, e2⟩ := data_no (q := qu) (s := fwriteL (objS l n).data k t) (b := fwriteB (objS l n).data k t) hed
    rw [if_neg hed] at HF
    rw [e1, e2]
    obtain ⟨av, cv, rfl, -⟩ := hv.at
    generalize editE l n 1 = E at *
    have h0b : (E != 0) = true := by simpa using hed
    clear hed e1 e2 hv
    go_enter Tryz.func15, Tryz.ntmps15
    go_wp2_with fail
    with_reducible refine HF.mono ?_
    rintro e w1 ⟨rfl, b1⟩
    go_wp2_with fail
    go_ret2
    exact ⟨_, rfl, ObjsV.nil _, b1⟩
set_option maxRecDepth 100000 in
set_option maxHeartbeats 4000000 in
theorem CutR_any (l : List ObjD) (hl : FitsS l) (v : Value) (qu : Int) (n : List UInt8) (k : Int) (w : World) (hv : ObjsV w v l) :
    Calls Tryz.prog 19 #[v, .int .i64 qu, .string ⟨n.toArray⟩, .int .i64 k] w (viewP w (cutS l qu n k) (cutE l qu n k)) := by
  have HF := rfind_any l hl v n 1 (by decide) w hv
  have hE : cutE l qu n k = dataE l qu n (fcutB (objS l n).data k) (fcutL (objS l n).data k) := rfl
  have hS : cutS l qu n k = dataS l qu n (fcutB (objS l n).data k) (fcutL (objS l n).data k) := rfl
  rw [hE, hS]
  clear hE hS
  by_cases hed : editE l n 1 = 0
  · obtain ⟨hsp, hi, -⟩ := edit_zero.1 hed
    rw [if_pos hed, hed] at HF
    have hdl : (objS l n).data.length ≤ 1000000 := by rw [objS_at hi]; have := (small_of hsp _ (List.getElem_mem hi)).2.1; omega
    have HP := fun W => fCutR_any (objS l n).data hdl k W
    have hge : (0 : Int) ≤ (idxS l n : Int) := by omega
    have hlt : (idxS l n : Int) < (l.length : Int) := by omega
    cases hb : fcutB (objS l n).data k with
    | false =>
      obtain ⟨e1, e2⟩ := data_bad (q := qu) (s := fcutL (objS l n).data k) hed
      rw [hb] at HP
      rw [e1, e2]
      unfold fileP at HP
      simp only [fL, fE, Bool.false_eq_true, if_false] at HP
      obtain ⟨b, o, cap, a4, c4, rfl, hlv, hcells⟩ := objs_cells hv _ hi
      rw [← objS_at hi] at hcells
      have hcH := Lib.hid hcells
      clear hcells hlv hv hsp hed e1 e2 hb
      generalize (objS l n).data = xd at *
      generalize (objS l n).items.length = il at *
      generalize (objS l n) = x at *
      generalize idxS l n = ix at *
      go_enter Tryz.func19, Tryz.ntmps19
      go_wp2_with fail
      with_reducible refine HF.mono ?_
      rintro e w1 ⟨rfl, b1⟩
      obtain ⟨-, -, k2, -, -⟩ := hcH.out _ (KeepC.of_below b1)
      go_wp2_with fail
      with_reducible refine (HP _).mono ?_
      rintro e w2 ⟨rfl, b2⟩
      go_wp2_with fail
      go_ret2
      exact ⟨_, rfl, ObjsV.nil _, b1.trans (b2.mono b1.size)⟩
    | true =>
      have hsl : (fcutL (objS l n).data k).length ≤ 1000 := fcut_len hb
      obtain ⟨e1, e2⟩ := rdata_eq (q := qu) hed hsl hi
      have HD := fun W (h : KeepC w W) => rdata_any l hl v qu (idxS l n) hi (fcutL (objS l n).data k) hsl W (hv.keep h)
      rw [e2, e1] at HD
      rw [hb] at HP
      unfold fileP at HP
      simp only [fL, fE, if_true] at HP
      obtain ⟨b, o, cap, a4, c4, rfl, hlv, hcells⟩ := objs_cells hv _ hi
      rw [← objS_at hi] at hcells
      have hcH := Lib.hid hcells
      clear hcells hlv hv hsp hed e1 e2 hb hsl
      generalize dataE l qu n true (fcutL (objS l n).data k) = E at *
      generalize dataS l qu n true (fcutL (objS l n).data k) = S at *
      generalize fcutL (objS l n).data k = FLx at *
      generalize (objS l n).data = xd at *
      generalize (objS l n).items.length = il at *
      generalize (objS l n) = x at *
      generalize idxS l n = ix at *
      go_enter Tryz.func19, Tryz.ntmps19
      go_wp2_with fail
      with_reducible refine HF.mono ?_
      rintro e w1 ⟨rfl, b1⟩
      obtain ⟨-, -, k2, -, -⟩ := hcH.out _ (KeepC.of_below b1)
      go_wp2_with fail
      with_reducible refine (HP _).mono ?_
      rintro e w2 ⟨rfl, b2⟩
      have B2 := b1.trans (b2.mono b1.size)
      have HDx := HD _ (KeepC.of_below B2)
      unfold viewP at HDx
      clear HD HP HF hcH k2
      go_wp2_with fail
      with_reducible refine HDx.mono ?_
      rintro e w3 ⟨v3, rfl, s3, b3⟩
      go_wp2_with fail
      go_ret2
      exact ⟨_, rfl, s3, B2.trans (b3.mono B2.size)⟩
  · obtain ⟨e1, e2⟩ := data_no (q := qu) (s := fcutL (objS l n).data k) (b := fcutB (objS l n).data k) hed
    rw [if_neg hed] at HF
    rw [e1, e2]
    obtain ⟨av, cv, rfl, -⟩ := hv.at
    generalize editE l n 1 = E at *
    have h0b : (E != 0) = true := by simpa using hed
    clear hed e1 e2 hv
    go_enter Tryz.func19, Tryz.ntmps19
    go_wp2_with fail
    with_reducible refine HF.mono ?_
    rintro e w1 ⟨rfl, b1⟩
    go_wp2_with fail
    go_ret2
    exact ⟨_, rfl, ObjsV.nil _, b1⟩
set_option maxRecDepth 100000 in
set_option maxHeartbeats 4000000 in
theorem ReadR_any (l : List ObjD) (hl : FitsS l) (v : Value) (n : List UInt8) (k m : Int) (w : World) (hv : ObjsV w v l) :
    Calls Tryz.prog 17 #[v, .string ⟨n.toArray⟩, .int .i64 k, .int .i64 m] w fun e w' => e = .returned (.tuple #[.string ⟨(readS l n k m).toArray⟩, .int .i64 (readE l n k m)]) ∧ Below w.heap.size w w' := by
  have HF := rfind_any l hl v n 1 (by decide) w hv
  have hE : readE l n k m = if editE l n 1 = 0 then fE (freadB (objS l n).data k m) else editE l n 1 := rfl
  have hS : readS l n k m = if readE l n k m = 0 then freadL (objS l n).data k m else [] := rfl
  by_cases hed : editE l n 1 = 0
  · obtain ⟨hsp, hi, -⟩ := edit_zero.1 hed
    rw [if_pos hed, hed] at HF
    rw [if_pos hed] at hE
    have hdl : (objS l n).data.length ≤ 1000000 := by rw [objS_at hi]; have := (small_of hsp _ (List.getElem_mem hi)).2.1; omega
    have HP := fun W => fReadR_any (objS l n).data hdl k m W
    have hge : (0 : Int) ≤ (idxS l n : Int) := by omega
    have hlt : (idxS l n : Int) < (l.length : Int) := by omega
    have hS2 : readS l n k m = fL (freadB (objS l n).data k m) (freadL (objS l n).data k m) := by
      rw [hS, hE]
      cases freadB (objS l n).data k m <;> rfl
    rw [hE, hS2]
    unfold fileP at HP
    obtain ⟨b, o, cap, a4, c4, rfl, hlv, hcells⟩ := objs_cells hv _ hi
    rw [← objS_at hi] at hcells
    have hcH := Lib.hid hcells
    clear hcells hlv hv hsp hed hS hE hS2
    generalize fE (freadB (objS l n).data k m) = E at *
    generalize fL (freadB (objS l n).data k m) (freadL (objS l n).data k m) = FLx at *
    generalize (objS l n).data = xd at *
    generalize (objS l n).items.length = il at *
    generalize (objS l n) = x at *
    generalize idxS l n = ix at *
    go_enter Tryz.func17, Tryz.ntmps17
    go_wp2_with fail
    with_reducible refine HF.mono ?_
    rintro e w1 ⟨rfl, b1⟩
    obtain ⟨-, -, k2, -, -⟩ := hcH.out _ (KeepC.of_below b1)
    go_wp2_with fail
    with_reducible refine (HP _).mono ?_
    rintro e w2 ⟨rfl, b2⟩
    go_wp2_with fail
    go_ret2
    exact ⟨rfl, b1.trans (b2.mono b1.size)⟩
  · rw [if_neg hed] at hE HF
    rw [hE, if_neg hed] at hS
    rw [hE, hS]
    obtain ⟨av, cv, rfl, -⟩ := hv.at
    generalize editE l n 1 = E at *
    have h0b : (E != 0) = true := by simpa using hed
    clear hed hS hE hv
    go_enter Tryz.func17, Tryz.ntmps17
    go_wp2_with fail
    with_reducible refine HF.mono ?_
    rintro e w1 ⟨rfl, b1⟩
    go_wp2_with fail
    go_ret2
    exact ⟨rfl, b1⟩
end Go.Proofs.YthclfkhakmcnbaaGreatDoor
