/- Joined: FileH -/
import Derived.Test.YthclfkhakmcnbaaGreatDoorJTK
/- Walks of layer 9: Cut. -/
namespace Go.Proofs.YthclfkhakmcnbaaGreatDoor
open Go.RowKit Go.Shelf
attribute [local go_sem] Oper.semAt_some
theorem made_at (W : World) (r : Nat) (t : TypeId) : ∀ (j : Nat) u, (u8C (List.replicate r 0))[j]? = some u → (W.alloc (.cells (madeCells #[.int .u8 0] r) t)).cell? ⟨W.heap.size, j, none⟩ = some u := fun j u hu => by
  rw [(Blk.new W (madeCells #[.int .u8 0] r) t).cell j]
  obtain ⟨hj, rfl⟩ := List.getElem?_eq_some_iff.1 hu
  rw [u8C_len, List.length_replicate] at hj
  simp [madeCells, hj, Nat.mod_one, u8C]
set_option maxRecDepth 100000 in
set_option maxHeartbeats 8000000 in
theorem fCut_any (s : List UInt8) (hs : s.length ≤ 1000000) (n : Int) (w : World) (hgE : w.cell? ⟨4, 0, none⟩ = some (.iface FileAs.RT (.agg #[FileAs.H 69]))) :
    Calls Tryz.prog 56 #[.string ⟨s.toArray⟩, .int .i64 n] w (fileP w (fcutB s n) (fcutL s n)) := by
  have HO := openF_any s hs w
  have HE := fun q v ok r W (h : KeepC w W) (h1 : Blk W q #[v, errF ok] 111) h2 => endF_any q r v ok W (h.2 _ _ _ hgE) h1 h2
  have hB : fcutB s n = (decide (s.length ≤ 1000) && [decide (0 ≤ n), decide (n ≤ 1000)].all id) := by
    unfold fcutB
    cases decide (s.length ≤ 1000) <;> cases decide (0 ≤ n) <;> cases decide (n ≤ 1000) <;> rfl
  have HM := fun q g W v h1 h2 h3 => mustF_any q g 2 v (decide (s.length ≤ 1000)) [decide (0 ≤ n), decide (n ≤ 1000)] (by simp) W h1 h2 h3
  rw [← hB] at HM
  clear hgE
  cases hc : fcutB s n with
  | false =>
    rw [hc] at HM
    clear hc hB
    generalize decide (s.length ≤ 1000) = ok at *
    go_enter Tryz.func56, Tryz.ntmps56
    go_wp2_with fail
    refine wp_scope_jumps (l := 0) (J := fun a W => ∃ (q : Nat) (v : Value), Blk W q #[v, errF false] 111 ∧ Below w.heap.size w W ∧ ∃ u0 u1 u2 u3 u4 u5 u7 u8 u9 u10 u11 u12 u13 u14 u15 u16 u17 u18 u19 u20 u21 u22 u23 u24 u25 u26 u27 u28 u29 u30 u31 u32 u33 u34 u35 u36 u37 u38 u39 u40 u41 u42 u43 u44 u45 u46 u47 u48 u49 u50 u51 : Value, a = { tmps := #[u0, u1, u2, u3, u4, u5, .pointer (some ⟨q, 0, none⟩), u7, u8, u9, u10, u11, u12, u13, u14, u15, u16, u17, u18, u19, u20, u21, u22, u23, u24, u25, u26, u27, u28, u29, u30, u31, u32, u33, u34, u35, u36, u37, u38, u39, u40, u41, u42, u43, u44, u45, u46, u47, u48, u49, u50, u51], defers := [] }) (μ := fun _ _ => 0) rfl ?first ?pass
    case pass =>
      rintro a W ⟨q, v, q3, b3, u0, u1, u2, u3, u4, u5, u7, u8, u9, u10, u11, u12, u13, u14, u15, u16, u17, u18, u19, u20, u21, u22, u23, u24, u25, u26, u27, u28, u29, u30, u31, u32, u33, u34, u35, u36, u37, u38, u39, u40, u41, u42, u43, u44, u45, u46, u47, u48, u49, u50, u51, rfl⟩
      have HEx := Lib.hid (HE q _ false (fcutL s n) W (KeepC.of_below b3) q3 (fun h => by cases h))
      clear HE q3 HM HO
      go_wp2_with fail
      with_reducible refine HEx.out.mono ?_
      rintro e w4 ⟨rfl, b4⟩
      go_wp2_with fail
      rw [jump_retF]
      go_ret2
      exact ⟨rfl, b3.trans (b4.mono b3.size)⟩
    case first =>
      clear HE
      go_wp2_with fail
      with_reducible refine HO.mono ?_
      rintro e w1 ⟨q, g, rfl, hqw, hgw, hgq, q1, g1, b1⟩
      clear HO
      have nb : Blk (w1.alloc (.cells #[.bool (decide (0 ≤ n)), .bool (decide (n ≤ 1000))] 4)) w1.heap.size #[.bool (decide (0 ≤ n)), .bool (decide (n ≤ 1000))] 4 := Blk.new _ _ _
      have HMx := HM q w1.heap.size _ _ (q1.alloc (.cells #[.bool (decide (0 ≤ n)), .bool (decide (n ≤ 1000))] 4)) (blk_bools (bs := [decide (0 ≤ n), decide (n ≤ 1000)]) nb) (by have := q1.lt; omega)
      have b2 := b1.alloc b1.size (.cells #[.bool (decide (0 ≤ n)), .bool (decide (n ≤ 1000))] 4)
      clear HM nb
      go_wp2_with fail
      refine HMx.mono ?_
      rintro e w3 ⟨rfl, q3, g3⟩
      have b3 := b2.grown g3 b2.size (fun k e => by cases e; exact hqw)
      have e3 : w3.cell? ⟨q, 1, none⟩ = some fwV := (q3.cell 1).trans rfl
      clear HMx q1 g1 g3 b2 b1
      go_wp2_with fail
      exact wp_goto ⟨rfl, q, _, q3, b3, _, _, _, _, _, _, _, _, _, _, _, _, _, _, _, _, _, _, _, _, _, _, _, _, _, _, _, _, _, _, _, _, _, _, _, _, _, _, _, _, _, _, _, _, _, _, _, _, _, _, _, rfl⟩
  | true =>
    have hB1 := hc
    simp only [fcutB, Bool.and_eq_true, decide_eq_true_eq] at hB1
    obtain ⟨⟨hs1, hn0⟩, hnl⟩ := hB1
    rw [hc] at HM
    have hd : decide (s.length ≤ 1000) = true := by simpa using hs1
    have hn1 : decide (0 ≤ n) = true := by simpa using hn0
    have hn2 : decide (n ≤ 1000) = true := by simpa using hnl
    rw [hd, hn1, hn2] at HM
    rw [hd] at HO
    obtain ⟨nn, rfl⟩ : ∃ nn : Nat, n = nn := ⟨n.toNat, by omega⟩
    clear hc hB hd hn1 hn2
    go_enter Tryz.func56, Tryz.ntmps56
    go_wp2_with fail
    refine wp_scope_straight ?_
    go_wp2_with fail
    with_reducible refine HO.mono ?_
    rintro e w1 ⟨q, g, rfl, hqw, hgw, hgq, q1, g1, b1⟩
    clear HO
    have nb : Blk (w1.alloc (.cells #[.bool true, .bool true] 4)) w1.heap.size #[.bool true, .bool true] 4 := Blk.new _ _ _
    have HMx := HM q w1.heap.size _ _ (q1.alloc (.cells #[.bool true, .bool true] 4)) (blk_bools (bs := [true, true]) nb) (by have := q1.lt; omega)
    have b2 := b1.alloc b1.size (.cells #[.bool true, .bool true] 4)
    have g2 := g1.keep (KeepC.alloc w1 (.cells #[.bool true, .bool true] 4))
    clear HM nb
    go_wp2_with fail
    refine HMx.mono ?_
    rintro e w3 ⟨rfl, q3, g3⟩
    have b3 := b2.grown g3 b2.size (fun k e => by cases e; exact hqw)
    have e3 : w3.cell? ⟨q, 1, none⟩ = some .nilIface := (q3.cell 1).trans rfl
    have e30 : w3.cell? ⟨q, 0, none⟩ = some (.slice (some ⟨g, 0, none⟩) s.length s.length) := (q3.cell 0).trans rfl
    have g30 : At8 w3 g s := ⟨Nat.lt_of_lt_of_le g2.1 g3.size, fun j u hu => (World.cell?_of_block (a := ⟨g, j, none⟩) (g3.block g g2.1 (by simpa using hgq))).trans (g2.2 j u hu)⟩
    have b3H := Lib.hid b3
    clear HMx q1 g1 g3 b2 b1 g2 b3
    obtain ⟨mm, hmm⟩ : ∃ mm, min nn s.length = mm := ⟨_, rfl⟩
    obtain ⟨rr, hrr⟩ : ∃ rr, nn - s.length = rr := ⟨_, rfl⟩
    have hm1 : min (nn : Int) (s.length : Int) = (mm : Int) := by omega
    have hr1 : max 0 ((nn : Int) - (s.length : Int)) = (rr : Int) := by omega
    have hm2 : (mm : Int) ≤ (s.length : Int) := by omega
    have hm3 : (0 : Int) ≤ (mm : Int) := by omega
    have hw1 : IntKind.i64.wrap ((nn : Int) - (s.length : Int)) = (nn : Int) - (s.length : Int) := IntWalk.i64_in _ (by omega)
    have hrb : rr ≤ 1000 := by omega
    have hmk := fun W => run_make_row' (P := Tryz.prog) 107 5 (.int .u8 0) 1 Tryz.underlying107 infoU8 rfl .i64 .i64 rr (by omega) (by omega) W
    have hy1 : sliced (some ⟨g, 0, none⟩) 0 mm s.length 1 = .slice (some ⟨g, 0, none⟩) mm s.length := by simp [sliced, Addr.add]
    have HY1 := Lib.hid hy1
    obtain ⟨W1, hW1⟩ : ∃ W1, w3.drew.alloc (.cells (madeCells #[.int .u8 0] rr) 5) = W1 := ⟨_, rfl⟩
    have hmk1 := hmk w3.drew
    rw [hW1] at hmk1
    have hX1 : Below w3.heap.size w3 W1 := by rw [← hW1]; exact (Below.refl w3.heap.size w3).drew.alloc (Nat.le_refl _) _
    have hX3 : ∀ (j : Nat) u, (u8C (List.replicate rr 0))[j]? = some u → W1.cell? ⟨w3.heap.size, j, none⟩ = some u := by rw [← hW1]; exact made_at w3.drew rr _
    have e31 : W1.cell? ⟨q, 0, none⟩ = some (.slice (some ⟨g, 0, none⟩) s.length s.length) := (KeepC.of_below hX1).2 _ _ _ e30
    have HSET : Hid (∀ W2, W2 = W1.alloc (.cells #[.slice (some ⟨g, 0, none⟩) mm s.length, .slice (some ⟨w3.heap.size, 0, none⟩) rr rr] 107) →
        Calls Tryz.prog 94 #[.pointer (some ⟨q, 0, none⟩), .slice (some ⟨W1.heap.size, 0, none⟩) 2 2] W2 fun e w' => e = .returned (.tuple #[]) ∧ Below w.heap.size w w' ∧ Hid (Calls Tryz.prog 88 #[.pointer (some ⟨q, 0, none⟩)] w' fun e w'' => e = .returned (.tuple #[.string ⟨(fL true (fcutL s nn)).toArray⟩, .int .i64 (fE true)]) ∧ Below w'.heap.size w' w'')) := by
      show ∀ W2, _
      rintro W2 hW2
      have nb : Blk W2 W1.heap.size #[.slice (some ⟨g, 0, none⟩) mm s.length, .slice (some ⟨w3.heap.size, 0, none⟩) rr rr] 107 := by rw [hW2]; exact Blk.new _ _ _
      have hB2 : Below W1.heap.size W1 W2 := by rw [hW2]; exact (Below.refl _ W1).alloc (Nat.le_refl _) _
      have q1' : Blk W1 q #[.slice (some ⟨g, 0, none⟩) s.length s.length, errF true] 111 := q3.below hX1 q3.lt
      have hK2 := KeepC.of_below hB2
      have l1 : (s.take mm).length = mm := by rw [List.length_take]; omega
      have l2 : (List.replicate rr (0 : UInt8)).length = rr := List.length_replicate
      have g2 := ((g30.keep (KeepC.of_below hX1)).keep hK2).2
      have ok1 : ∀ (j : Nat) u, (u8C (s.take mm))[j]? = some u → W2.cell? ⟨g, 0 + j, none⟩ = some u := fun j u hu => by
        rw [Nat.zero_add]
        refine g2 j u ?_
        obtain ⟨hj, rfl⟩ := List.getElem?_eq_some_iff.1 hu
        rw [u8C_len, l1] at hj
        simp only [u8C, List.getElem?_map]
        rw [List.getElem?_eq_getElem (by omega)]
        simp
      have ok2 : ∀ (j : Nat) u, (u8C (List.replicate rr 0))[j]? = some u → W2.cell? ⟨w3.heap.size, 0 + j, none⟩ = some u := fun j u hu => by
        rw [Nat.zero_add]; exact hK2.2 _ _ _ (hX3 j u hu)
      have HS := setF_any q W1.heap.size 2 W2 [⟨g, 0, s.length, s.take mm, ok1, by omega⟩, ⟨w3.heap.size, 0, rr, List.replicate rr 0, ok2, by omega⟩] (by simp) _ true (q1'.below hB2 q1'.lt)
        (fun i hi => by
          rw [nb.cell i]
          have hi' : i < 2 := hi
          match i, hi' with
          | 0, _ => simp [pcV, l1]
          | 1, _ => simp [pcV]) nb.lt (by have := q1'.lt; omega) ⟨_, _, _, rfl⟩
      have hsum : sumP [(⟨g, 0, s.length, s.take mm, ok1, by omega⟩ : PcD W2), ⟨w3.heap.size, 0, rr, List.replicate rr 0, ok2, by omega⟩] = mm + rr := by simp only [sumP, List.map_cons, List.map_nil, List.sum_cons, List.sum_nil, l1, l2]; omega
      have hcat : catP [(⟨g, 0, s.length, s.take mm, ok1, by omega⟩ : PcD W2), ⟨w3.heap.size, 0, rr, List.replicate rr 0, ok2, by omega⟩] = fcutL s nn := by
        have e1 : s.take mm = s.take nn := by
          rw [← hmm]
          by_cases h : nn ≤ s.length
          · rw [Nat.min_eq_left h]
          · rw [Nat.min_eq_right (by omega), List.take_of_length_le (Nat.le_refl _), List.take_of_length_le (by omega)]
        simp [catP, fcutL, hrr, e1]
      rw [hsum, hcat] at HS
      have hle : mm + rr ≤ 1000 := by omega
      refine HS.mono fun e w' ⟨he, v', h1, h2, h3, h4⟩ => ?_
      have hlen : (fcutL s nn).length = mm + rr := by rw [← hcat, catP_len, hsum]
      have b2 : Below w.heap.size w W2 := b3H.out.trans ((hX1.trans (hB2.mono hX1.size)).mono b3H.out.size)
      have b4 : Below w.heap.size w w' := b2.grown h3 b2.size (fun k e => by cases e; exact hqw)
      refine ⟨he, b4, HE q v' true _ w' (KeepC.of_below b4) (by simpa [hle] using h1) (fun _ => ?_)⟩
      have := SlR.of_row (h2 hle)
      rw [← hlen] at this
      exact this
    clear HE g30 q3 b3H hy1 hmm hrr hX3 hX1 hW1 hmk
    go_wp2_with fail
    refine wp_region_noPanic ?_
    refine wp_region_any (by kernel_rfl) ?_
    change wpAny _ _ _ _ _ _ _ (World.drew _)
    refine wpAny_take (i := 0) (oi := _) (v := ?_) (nth_at rfl) (by kernel_rfl) (by kernel_rfl) (by kernel_rfl) (fun _ _ _ h => h) (Or.inl ⟨by rfl, ?_⟩) ?_
    rotate_left 1
    · intro w; (go_simp <;> with_reducible rfl)
    try simp only [Act.put, List.setIfInBounds_toArray, List.set_cons_zero, List.set_cons_succ]
    refine wpAny_take (i := 1) (oi := _) (v := ?_) (nth_at rfl) (by kernel_rfl) (by kernel_rfl) (by kernel_rfl) (fun _ _ _ h => h) (Or.inl ⟨by rfl, ?_⟩) ?_
    rotate_left 1
    · intro w; (go_simp <;> with_reducible rfl)
    try simp only [Act.put, List.setIfInBounds_toArray, List.set_cons_zero, List.set_cons_succ]
    refine wpAny_take (i := 2) (oi := _) (v := ?_) (nth_at rfl) (by kernel_rfl) (by kernel_rfl) (by kernel_rfl) (fun _ _ _ h => h) (Or.inl ⟨by rfl, ?_⟩) ?_
    rotate_left 1
    · intro w; (go_simp <;> with_reducible rfl)
    try simp only [Act.put, List.setIfInBounds_toArray, List.set_cons_zero, List.set_cons_succ]
    refine wpAny_take (i := 3) (oi := _) (v := ?_) (nth_at rfl) (by kernel_rfl) (by kernel_rfl) (by kernel_rfl) (fun _ _ _ h => h) (Or.inl ⟨by rfl, ?_⟩) ?_
    rotate_left 1
    · intro w; (go_simp <;> with_reducible rfl)
    try simp only [Act.put, List.setIfInBounds_toArray, List.set_cons_zero, List.set_cons_succ]
    refine wpAny_take (i := 4) (oi := _) (v := ?_) (nth_at rfl) (by kernel_rfl) (by kernel_rfl) (by kernel_rfl) (fun _ _ _ h => h) (Or.inl ⟨by rfl, ?_⟩) ?_
    rotate_left 1
    · intro w; (go_simp <;> with_reducible rfl)
    try simp only [Act.put, List.setIfInBounds_toArray, List.set_cons_zero, List.set_cons_succ]
    refine wpAny_take (i := 6) (oi := _) (v := ?_) (nth_at rfl) (by kernel_rfl) (by kernel_rfl) (by kernel_rfl) (fun _ _ _ h => h) (Or.inl ⟨by rfl, ?_⟩) ?_
    rotate_left 1
    · intro w; (go_simp <;> with_reducible rfl)
    try simp only [Act.put, List.setIfInBounds_toArray, List.set_cons_zero, List.set_cons_succ]
    refine wpAny_take (i := 7) (oi := _) (v := ?_) (nth_at rfl) (by kernel_rfl) (by kernel_rfl) (by kernel_rfl) (fun _ _ _ h => h) (Or.inl ⟨by rfl, ?_⟩) ?_
    rotate_left 1
    · intro w; (go_simp <;> with_reducible rfl)
    try simp only [Act.put, List.setIfInBounds_toArray, List.set_cons_zero, List.set_cons_succ]
    refine wpAny_take (i := 8) (oi := _) (v := ?_) (nth_at rfl) (by kernel_rfl) (by kernel_rfl) (by kernel_rfl) (fun _ _ _ h => h) (Or.inl ⟨by rfl, ?_⟩) ?_
    rotate_left 1
    · intro w; (go_simp <;> with_reducible rfl)
    try simp only [Act.put, List.setIfInBounds_toArray, List.set_cons_zero, List.set_cons_succ]
    refine wpAny_take (i := 9) (oi := _) (v := ?_) (nth_at rfl) (by kernel_rfl) (by kernel_rfl) (by kernel_rfl) (fun _ _ _ h => h) (Or.inl ⟨by rfl, ?_⟩) ?_
    rotate_left 1
    · intro w; (go_simp <;> with_reducible rfl)
    try simp only [Act.put, List.setIfInBounds_toArray, List.set_cons_zero, List.set_cons_succ]
    refine wpAny_take (i := 10) (oi := _) (v := ?_) (nth_at rfl) (by kernel_rfl) (by kernel_rfl) (by kernel_rfl) (fun _ _ _ h => h) (Or.inl ⟨by rfl, ?_⟩) ?_
    rotate_left 1
    · intro w; (go_simp <;> with_reducible rfl)
    try simp only [Act.put, List.setIfInBounds_toArray, List.set_cons_zero, List.set_cons_succ]
    refine wpAny_take (i := 15) (oi := _) (v := ?_) (nth_at rfl) (by kernel_rfl) (by kernel_rfl) (by kernel_rfl) (fun _ _ _ h => h) (Or.inl ⟨by rfl, ?_⟩) ?_
    rotate_left 1
    · intro w; (go_simp <;> with_reducible rfl)
    try simp only [Act.put, List.setIfInBounds_toArray, List.set_cons_zero, List.set_cons_succ]
    refine wpAny_take (i := 16) (oi := _) (v := ?_) (nth_at rfl) (by kernel_rfl) (by kernel_rfl) (by kernel_rfl) (fun _ _ _ h => h) (Or.inl ⟨by rfl, ?_⟩) ?_
    rotate_left 1
    · intro w; (go_simp <;> with_reducible rfl)
    try simp only [Act.put, List.setIfInBounds_toArray, List.set_cons_zero, List.set_cons_succ]
    refine wpAny_take (i := 17) (oi := _) (v := ?_) (nth_at rfl) (by kernel_rfl) (by kernel_rfl) (by kernel_rfl) (fun _ _ _ h => h) (Or.inl ⟨by rfl, ?_⟩) ?_
    rotate_left 1
    · intro w; (go_simp <;> with_reducible rfl)
    try simp only [Act.put, List.setIfInBounds_toArray, List.set_cons_zero, List.set_cons_succ]
    refine wpAny_take (i := 18) (oi := _) (v := ?_) (nth_at rfl) (by kernel_rfl) (by kernel_rfl) (by kernel_rfl) (fun _ _ _ h => h) (Or.inl ⟨by rfl, ?_⟩) ?_
    rotate_left 1
    · intro w; (go_simp <;> with_reducible rfl)
    try simp only [Act.put, List.setIfInBounds_toArray, List.set_cons_zero, List.set_cons_succ]
    refine wpAny_take (i := 19) (oi := _) (v := ?_) (nth_at rfl) (by kernel_rfl) (by kernel_rfl) (by kernel_rfl) (fun _ _ _ h => h) (Or.inl ⟨by rfl, ?_⟩) ?_
    rotate_left 1
    · intro w; (go_simp <;> with_reducible rfl)
    try simp only [Act.put, List.setIfInBounds_toArray, List.set_cons_zero, List.set_cons_succ]
    refine wpAny_ready (rs := [5, 11, 20]) (by kernel_rfl) (by simp) ?_
    refine AllReady.cons (o := _) (nth_at rfl) (fun K hK => ?_) ?_
    · go_simp
      refine hK _ _ ?_
      clear hK K
      try simp only [Act.put, List.setIfInBounds_toArray, List.set_cons_zero, List.set_cons_succ]
      refine wpAny_ready (rs := [11, 20]) (by kernel_rfl) (by simp) ?_
      refine AllReady.cons (o := _) (nth_at rfl) (fun K hK => ?_) ?_
      · go_simp
        refine hK _ _ ?_
        clear hK K
        try simp only [Act.put, List.setIfInBounds_toArray, List.set_cons_zero, List.set_cons_succ]
        refine wpAny_take (i := 12) (oi := _) (v := ?_) (nth_at rfl) (by kernel_rfl) (by kernel_rfl) (by kernel_rfl) (fun _ _ _ h => h) (Or.inl ⟨by rfl, ?_⟩) ?_
        rotate_left 1
        · intro w; (go_simp <;> with_reducible rfl)
        try simp only [Act.put, List.setIfInBounds_toArray, List.set_cons_zero, List.set_cons_succ]
        refine wpAny_take (i := 13) (oi := _) (v := ?_) (nth_at rfl) (by kernel_rfl) (by kernel_rfl) (by kernel_rfl) (fun _ _ _ h => h) (Or.inl ⟨by rfl, ?_⟩) ?_
        rotate_left 1
        · intro w; (go_simp <;> with_reducible rfl)
        try simp only [Act.put, List.setIfInBounds_toArray, List.set_cons_zero, List.set_cons_succ]
        refine wpAny_take (i := 14) (oi := _) (v := .slice (some ⟨g, 0, none⟩) mm s.length) (nth_at rfl) (by kernel_rfl) (by kernel_rfl) (by kernel_rfl) (fun _ _ _ h => h) (Or.inl ⟨by rfl, ?_⟩) ?_
        · intro w; (go_simp <;> (have h := HY1.out; simp [sliced] at h ⊢; first | done | exact h))
        try simp only [Act.put, List.setIfInBounds_toArray, List.set_cons_zero, List.set_cons_succ]
        refine wpAny_ready (rs := [20]) (by kernel_rfl) (by simp) ?_
        refine AllReady.cons (o := _) (nth_at rfl) (fun K hK => ?_) AllReady.nil
        go_simp
        refine hK _ _ ?_
        clear hK K
        try simp only [Act.put, List.setIfInBounds_toArray, List.set_cons_zero, List.set_cons_succ]
        refine wpAny_take (i := 21) (oi := _) (v := ?_) (nth_at rfl) (by kernel_rfl) (by kernel_rfl) (by kernel_rfl) (fun _ _ _ h => h) (Or.inl ⟨by rfl, ?_⟩) ?_
        rotate_left 1
        · intro w; (go_simp <;> with_reducible rfl)
        try simp only [Act.put, List.setIfInBounds_toArray, List.set_cons_zero, List.set_cons_succ]
        refine wpAny_take (i := 22) (oi := _) (v := ?_) (nth_at rfl) (by kernel_rfl) (by kernel_rfl) (by kernel_rfl) (fun _ _ _ h => h) (Or.inl ⟨by rfl, ?_⟩) ?_
        rotate_left 1
        · intro w; (go_simp <;> with_reducible rfl)
        try simp only [Act.put, List.setIfInBounds_toArray, List.set_cons_zero, List.set_cons_succ]
        refine wpAny_take (i := 23) (oi := _) (v := ?_) (nth_at rfl) (by kernel_rfl) (by kernel_rfl) (by kernel_rfl) (fun _ _ _ h => h) (Or.inl ⟨by rfl, ?_⟩) ?_
        rotate_left 1
        · intro w; (go_simp <;> with_reducible rfl)
        try simp only [Act.put, List.setIfInBounds_toArray, List.set_cons_zero, List.set_cons_succ]
        refine wpAny_ready (rs := [24]) (by kernel_rfl) (by simp) ?_
        refine AllReady.cons (o := _) (nth_at rfl) (fun K hK => ?_) AllReady.nil
        go_simp
        refine hK _ _ ?_
        clear hK K
        try simp only [Act.put, List.setIfInBounds_toArray, List.set_cons_zero, List.set_cons_succ]
        refine wpAny_ready (rs := [25]) (by kernel_rfl) (by simp) ?_
        refine AllReady.cons (o := _) (nth_at rfl) (fun K hK => ?_) AllReady.nil
        go_simp
        refine hK _ _ ?_
        clear hK K
        try simp only [Act.put, List.setIfInBounds_toArray, List.set_cons_zero, List.set_cons_succ]
        refine wpAny_ready (rs := [26]) (by kernel_rfl) (by simp) ?_
        refine AllReady.cons (o := _) (nth_at rfl) (fun K hK => ?_) AllReady.nil
        go_simp
        with_reducible refine (HSET.out _ rfl).mono ?_
        rintro e w4 ⟨rfl, b4, HEy⟩
        refine hK _ _ ?_
        clear hK K
        try simp only [Act.put, List.setIfInBounds_toArray, List.set_cons_zero, List.set_cons_succ]
        refine wpAny_done (by kernel_rfl) ?_ _
        refine NoPanic.normal ?_
        go_wp2_with fail
        refine wp_label ?_
        go_wp2_with fail
        with_reducible refine HEy.out.mono ?_
        rintro e w5 ⟨rfl, b5⟩
        go_wp2_with fail
        simp only [Exit.noGoto_ret]
        go_ret2
        exact ⟨rfl, b4.trans (b5.mono b4.size)⟩
      refine AllReady.cons (o := _) (nth_at rfl) (fun K hK => ?_) AllReady.nil
      go_simp
      refine hK _ _ ?_
      clear hK K
      try simp only [Act.put, List.setIfInBounds_toArray, List.set_cons_zero, List.set_cons_succ]
      refine wpAny_take (i := 21) (oi := _) (v := ?_) (nth_at rfl) (by kernel_rfl) (by kernel_rfl) (by kernel_rfl) (fun _ _ _ h => h) (Or.inl ⟨by rfl, ?_⟩) ?_
      rotate_left 1
      · intro w; (go_simp <;> with_reducible rfl)
      try simp only [Act.put, List.setIfInBounds_toArray, List.set_cons_zero, List.set_cons_succ]
      refine wpAny_take (i := 22) (oi := _) (v := ?_) (nth_at rfl) (by kernel_rfl) (by kernel_rfl) (by kernel_rfl) (fun _ _ _ h => h) (Or.inl ⟨by rfl, ?_⟩) ?_
      rotate_left 1
      · intro w; (go_simp <;> with_reducible rfl)
      try simp only [Act.put, List.setIfInBounds_toArray, List.set_cons_zero, List.set_cons_succ]
      refine wpAny_take (i := 23) (oi := _) (v := ?_) (nth_at rfl) (by kernel_rfl) (by kernel_rfl) (by kernel_rfl) (fun _ _ _ h => h) (Or.inl ⟨by rfl, ?_⟩) ?_
      rotate_left 1
      · intro w; (go_simp <;> with_reducible rfl)
      try simp only [Act.put, List.setIfInBounds_toArray, List.set_cons_zero, List.set_cons_succ]
      refine wpAny_ready (rs := [11, 24]) (by kernel_rfl) (by simp) ?_
      refine AllReady.cons (o := _) (nth_at rfl) (fun K hK => ?_) ?_
      · go_simp
        refine hK _ _ ?_
        clear hK K
        try simp only [Act.put, List.setIfInBounds_toArray, List.set_cons_zero, List.set_cons_succ]
        refine wpAny_take (i := 12) (oi := _) (v := ?_) (nth_at rfl) (by kernel_rfl) (by kernel_rfl) (by kernel_rfl) (fun _ _ _ h => h) (Or.inl ⟨by rfl, ?_⟩) ?_
        rotate_left 1
        · intro w; (go_simp <;> with_reducible rfl)
        try simp only [Act.put, List.setIfInBounds_toArray, List.set_cons_zero, List.set_cons_succ]
        refine wpAny_take (i := 13) (oi := _) (v := ?_) (nth_at rfl) (by kernel_rfl) (by kernel_rfl) (by kernel_rfl) (fun _ _ _ h => h) (Or.inl ⟨by rfl, ?_⟩) ?_
        rotate_left 1
        · intro w; (go_simp <;> with_reducible rfl)
        try simp only [Act.put, List.setIfInBounds_toArray, List.set_cons_zero, List.set_cons_succ]
        refine wpAny_take (i := 14) (oi := _) (v := .slice (some ⟨g, 0, none⟩) mm s.length) (nth_at rfl) (by kernel_rfl) (by kernel_rfl) (by kernel_rfl) (fun _ _ _ h => h) (Or.inl ⟨by rfl, ?_⟩) ?_
        · intro w; (go_simp <;> (have h := HY1.out; simp [sliced] at h ⊢; first | done | exact h))
        try simp only [Act.put, List.setIfInBounds_toArray, List.set_cons_zero, List.set_cons_succ]
        refine wpAny_ready (rs := [24]) (by kernel_rfl) (by simp) ?_
        refine AllReady.cons (o := _) (nth_at rfl) (fun K hK => ?_) AllReady.nil
        go_simp
        refine hK _ _ ?_
        clear hK K
        try simp only [Act.put, List.setIfInBounds_toArray, List.set_cons_zero, List.set_cons_succ]
        refine wpAny_ready (rs := [25]) (by kernel_rfl) (by simp) ?_
        refine AllReady.cons (o := _) (nth_at rfl) (fun K hK => ?_) AllReady.nil
        go_simp
        refine hK _ _ ?_
        clear hK K
        try simp only [Act.put, List.setIfInBounds_toArray, List.set_cons_zero, List.set_cons_succ]
        refine wpAny_ready (rs := [26]) (by kernel_rfl) (by simp) ?_
        refine AllReady.cons (o := _) (nth_at rfl) (fun K hK => ?_) AllReady.nil
        go_simp
        with_reducible refine (HSET.out _ rfl).mono ?_
        rintro e w4 ⟨rfl, b4, HEy⟩
        refine hK _ _ ?_
        clear hK K
        try simp only [Act.put, List.setIfInBounds_toArray, List.set_cons_zero, List.set_cons_succ]
        refine wpAny_done (by kernel_rfl) ?_ _
        refine NoPanic.normal ?_
        go_wp2_with fail
        refine wp_label ?_
        go_wp2_with fail
        with_reducible refine HEy.out.mono ?_
        rintro e w5 ⟨rfl, b5⟩
        go_wp2_with fail
        simp only [Exit.noGoto_ret]
        go_ret2
        exact ⟨rfl, b4.trans (b5.mono b4.size)⟩
      refine AllReady.cons (o := _) (nth_at rfl) (fun K hK => ?_) AllReady.nil
      go_simp
      refine hK _ _ ?_
      clear hK K
      try simp only [Act.put, List.setIfInBounds_toArray, List.set_cons_zero, List.set_cons_succ]
      refine wpAny_ready (rs := [11]) (by kernel_rfl) (by simp) ?_
      refine AllReady.cons (o := _) (nth_at rfl) (fun K hK => ?_) AllReady.nil
      go_simp
      refine hK _ _ ?_
      clear hK K
      try simp only [Act.put, List.setIfInBounds_toArray, List.set_cons_zero, List.set_cons_succ]
      refine wpAny_take (i := 12) (oi := _) (v := ?_) (nth_at rfl) (by kernel_rfl) (by kernel_rfl) (by kernel_rfl) (fun _ _ _ h => h) (Or.inl ⟨by rfl, ?_⟩) ?_
      rotate_left 1
      · intro w; (go_simp <;> with_reducible rfl)
      try simp only [Act.put, List.setIfInBounds_toArray, List.set_cons_zero, List.set_cons_succ]
      refine wpAny_take (i := 13) (oi := _) (v := ?_) (nth_at rfl) (by kernel_rfl) (by kernel_rfl) (by kernel_rfl) (fun _ _ _ h => h) (Or.inl ⟨by rfl, ?_⟩) ?_
      rotate_left 1
      · intro w; (go_simp <;> with_reducible rfl)
      try simp only [Act.put, List.setIfInBounds_toArray, List.set_cons_zero, List.set_cons_succ]
      refine wpAny_take (i := 14) (oi := _) (v := .slice (some ⟨g, 0, none⟩) mm s.length) (nth_at rfl) (by kernel_rfl) (by kernel_rfl) (by kernel_rfl) (fun _ _ _ h => h) (Or.inl ⟨by rfl, ?_⟩) ?_
      · intro w; (go_simp <;> (have h := HY1.out; simp [sliced] at h ⊢; first | done | exact h))
      try simp only [Act.put, List.setIfInBounds_toArray, List.set_cons_zero, List.set_cons_succ]
      refine wpAny_ready (rs := [25]) (by kernel_rfl) (by simp) ?_
      refine AllReady.cons (o := _) (nth_at rfl) (fun K hK => ?_) AllReady.nil
      go_simp
      refine hK _ _ ?_
      clear hK K
      try simp only [Act.put, List.setIfInBounds_toArray, List.set_cons_zero, List.set_cons_succ]
      refine wpAny_ready (rs := [26]) (by kernel_rfl) (by simp) ?_
      refine AllReady.cons (o := _) (nth_at rfl) (fun K hK => ?_) AllReady.nil
      go_simp
      with_reducible refine (HSET.out _ rfl).mono ?_
      rintro e w4 ⟨rfl, b4, HEy⟩
      refine hK _ _ ?_
      clear hK K
      try simp only [Act.put, List.setIfInBounds_toArray, List.set_cons_zero, List.set_cons_succ]
      refine wpAny_done (by kernel_rfl) ?_ _
      refine NoPanic.normal ?_
      go_wp2_with fail
      refine wp_label ?_
      go_wp2_with fail
      with_reducible refine HEy.out.mono ?_
      rintro e w5 ⟨rfl, b5⟩
      go_wp2_with fail
      simp only [Exit.noGoto_ret]
      go_ret2
      exact ⟨rfl, b4.trans (b5.mono b4.size)⟩
    refine AllReady.cons (o := _) (nth_at rfl) (fun K hK => ?_) ?_
    · go_simp
      refine hK _ _ ?_
      clear hK K
      try simp only [Act.put, List.setIfInBounds_toArray, List.set_cons_zero, List.set_cons_succ]
      refine wpAny_take (i := 12) (oi := _) (v := ?_) (nth_at rfl) (by kernel_rfl) (by kernel_rfl) (by kernel_rfl) (fun _ _ _ h => h) (Or.inl ⟨by rfl, ?_⟩) ?_
      rotate_left 1
      · intro w; (go_simp <;> with_reducible rfl)
      try simp only [Act.put, List.setIfInBounds_toArray, List.set_cons_zero, List.set_cons_succ]
      refine wpAny_take (i := 13) (oi := _) (v := ?_) (nth_at rfl) (by kernel_rfl) (by kernel_rfl) (by kernel_rfl) (fun _ _ _ h => h) (Or.inl ⟨by rfl, ?_⟩) ?_
      rotate_left 1
      · intro w; (go_simp <;> with_reducible rfl)
      try simp only [Act.put, List.setIfInBounds_toArray, List.set_cons_zero, List.set_cons_succ]
      refine wpAny_ready (rs := [5, 20]) (by kernel_rfl) (by simp) ?_
      refine AllReady.cons (o := _) (nth_at rfl) (fun K hK => ?_) ?_
      · go_simp
        refine hK _ _ ?_
        clear hK K
        try simp only [Act.put, List.setIfInBounds_toArray, List.set_cons_zero, List.set_cons_succ]
        refine wpAny_take (i := 14) (oi := _) (v := .slice (some ⟨g, 0, none⟩) mm s.length) (nth_at rfl) (by kernel_rfl) (by kernel_rfl) (by kernel_rfl) (fun _ _ _ h => h) (Or.inl ⟨by rfl, ?_⟩) ?_
        · intro w; (go_simp <;> (have h := HY1.out; simp [sliced] at h ⊢; first | done | exact h))
        try simp only [Act.put, List.setIfInBounds_toArray, List.set_cons_zero, List.set_cons_succ]
        refine wpAny_ready (rs := [20]) (by kernel_rfl) (by simp) ?_
        refine AllReady.cons (o := _) (nth_at rfl) (fun K hK => ?_) AllReady.nil
        go_simp
        refine hK _ _ ?_
        clear hK K
        try simp only [Act.put, List.setIfInBounds_toArray, List.set_cons_zero, List.set_cons_succ]
        refine wpAny_take (i := 21) (oi := _) (v := ?_) (nth_at rfl) (by kernel_rfl) (by kernel_rfl) (by kernel_rfl) (fun _ _ _ h => h) (Or.inl ⟨by rfl, ?_⟩) ?_
        rotate_left 1
        · intro w; (go_simp <;> with_reducible rfl)
        try simp only [Act.put, List.setIfInBounds_toArray, List.set_cons_zero, List.set_cons_succ]
        refine wpAny_take (i := 22) (oi := _) (v := ?_) (nth_at rfl) (by kernel_rfl) (by kernel_rfl) (by kernel_rfl) (fun _ _ _ h => h) (Or.inl ⟨by rfl, ?_⟩) ?_
        rotate_left 1
        · intro w; (go_simp <;> with_reducible rfl)
        try simp only [Act.put, List.setIfInBounds_toArray, List.set_cons_zero, List.set_cons_succ]
        refine wpAny_take (i := 23) (oi := _) (v := ?_) (nth_at rfl) (by kernel_rfl) (by kernel_rfl) (by kernel_rfl) (fun _ _ _ h => h) (Or.inl ⟨by rfl, ?_⟩) ?_
        rotate_left 1
        · intro w; (go_simp <;> with_reducible rfl)
        try simp only [Act.put, List.setIfInBounds_toArray, List.set_cons_zero, List.set_cons_succ]
        refine wpAny_ready (rs := [24]) (by kernel_rfl) (by simp) ?_
        refine AllReady.cons (o := _) (nth_at rfl) (fun K hK => ?_) AllReady.nil
        go_simp
        refine hK _ _ ?_
        clear hK K
        try simp only [Act.put, List.setIfInBounds_toArray, List.set_cons_zero, List.set_cons_succ]
        refine wpAny_ready (rs := [25]) (by kernel_rfl) (by simp) ?_
        refine AllReady.cons (o := _) (nth_at rfl) (fun K hK => ?_) AllReady.nil
        go_simp
        refine hK _ _ ?_
        clear hK K
        try simp only [Act.put, List.setIfInBounds_toArray, List.set_cons_zero, List.set_cons_succ]
        refine wpAny_ready (rs := [26]) (by kernel_rfl) (by simp) ?_
        refine AllReady.cons (o := _) (nth_at rfl) (fun K hK => ?_) AllReady.nil
        go_simp
        with_reducible refine (HSET.out _ rfl).mono ?_
        rintro e w4 ⟨rfl, b4, HEy⟩
        refine hK _ _ ?_
        clear hK K
        try simp only [Act.put, List.setIfInBounds_toArray, List.set_cons_zero, List.set_cons_succ]
        refine wpAny_done (by kernel_rfl) ?_ _
        refine NoPanic.normal ?_
        go_wp2_with fail
        refine wp_label ?_
        go_wp2_with fail
        with_reducible refine HEy.out.mono ?_
        rintro e w5 ⟨rfl, b5⟩
        go_wp2_with fail
        simp only [Exit.noGoto_ret]
        go_ret2
        exact ⟨rfl, b4.trans (b5.mono b4.size)⟩
      refine AllReady.cons (o := _) (nth_at rfl) (fun K hK => ?_) AllReady.nil
      go_simp
      refine hK _ _ ?_
      clear hK K
      try simp only [Act.put, List.setIfInBounds_toArray, List.set_cons_zero, List.set_cons_succ]
      refine wpAny_take (i := 21) (oi := _) (v := ?_) (nth_at rfl) (by kernel_rfl) (by kernel_rfl) (by kernel_rfl) (fun _ _ _ h => h) (Or.inl ⟨by rfl, ?_⟩) ?_
      rotate_left 1
      · intro w; (go_simp <;> with_reducible rfl)
      try simp only [Act.put, List.setIfInBounds_toArray, List.set_cons_zero, List.set_cons_succ]
      refine wpAny_take (i := 22) (oi := _) (v := ?_) (nth_at rfl) (by kernel_rfl) (by kernel_rfl) (by kernel_rfl) (fun _ _ _ h => h) (Or.inl ⟨by rfl, ?_⟩) ?_
      rotate_left 1
      · intro w; (go_simp <;> with_reducible rfl)
      try simp only [Act.put, List.setIfInBounds_toArray, List.set_cons_zero, List.set_cons_succ]
      refine wpAny_take (i := 23) (oi := _) (v := ?_) (nth_at rfl) (by kernel_rfl) (by kernel_rfl) (by kernel_rfl) (fun _ _ _ h => h) (Or.inl ⟨by rfl, ?_⟩) ?_
      rotate_left 1
      · intro w; (go_simp <;> with_reducible rfl)
      try simp only [Act.put, List.setIfInBounds_toArray, List.set_cons_zero, List.set_cons_succ]
      refine wpAny_ready (rs := [5, 24]) (by kernel_rfl) (by simp) ?_
      refine AllReady.cons (o := _) (nth_at rfl) (fun K hK => ?_) ?_
      · go_simp
        refine hK _ _ ?_
        clear hK K
        try simp only [Act.put, List.setIfInBounds_toArray, List.set_cons_zero, List.set_cons_succ]
        refine wpAny_take (i := 14) (oi := _) (v := .slice (some ⟨g, 0, none⟩) mm s.length) (nth_at rfl) (by kernel_rfl) (by kernel_rfl) (by kernel_rfl) (fun _ _ _ h => h) (Or.inl ⟨by rfl, ?_⟩) ?_
        · intro w; (go_simp <;> (have h := HY1.out; simp [sliced] at h ⊢; first | done | exact h))
        try simp only [Act.put, List.setIfInBounds_toArray, List.set_cons_zero, List.set_cons_succ]
        refine wpAny_ready (rs := [24]) (by kernel_rfl) (by simp) ?_
        refine AllReady.cons (o := _) (nth_at rfl) (fun K hK => ?_) AllReady.nil
        go_simp
        refine hK _ _ ?_
        clear hK K
        try simp only [Act.put, List.setIfInBounds_toArray, List.set_cons_zero, List.set_cons_succ]
        refine wpAny_ready (rs := [25]) (by kernel_rfl) (by simp) ?_
        refine AllReady.cons (o := _) (nth_at rfl) (fun K hK => ?_) AllReady.nil
        go_simp
        refine hK _ _ ?_
        clear hK K
        try simp only [Act.put, List.setIfInBounds_toArray, List.set_cons_zero, List.set_cons_succ]
        refine wpAny_ready (rs := [26]) (by kernel_rfl) (by simp) ?_
        refine AllReady.cons (o := _) (nth_at rfl) (fun K hK => ?_) AllReady.nil
        go_simp
        with_reducible refine (HSET.out _ rfl).mono ?_
        rintro e w4 ⟨rfl, b4, HEy⟩
        refine hK _ _ ?_
        clear hK K
        try simp only [Act.put, List.setIfInBounds_toArray, List.set_cons_zero, List.set_cons_succ]
        refine wpAny_done (by kernel_rfl) ?_ _
        refine NoPanic.normal ?_
        go_wp2_with fail
        refine wp_label ?_
        go_wp2_with fail
        with_reducible refine HEy.out.mono ?_
        rintro e w5 ⟨rfl, b5⟩
        go_wp2_with fail
        simp only [Exit.noGoto_ret]
        go_ret2
        exact ⟨rfl, b4.trans (b5.mono b4.size)⟩
      refine AllReady.cons (o := _) (nth_at rfl) (fun K hK => ?_) AllReady.nil
      go_simp
      refine hK _ _ ?_
      clear hK K
      try simp only [Act.put, List.setIfInBounds_toArray, List.set_cons_zero, List.set_cons_succ]
      refine wpAny_ready (rs := [5]) (by kernel_rfl) (by simp) ?_
      refine AllReady.cons (o := _) (nth_at rfl) (fun K hK => ?_) AllReady.nil
      go_simp
      refine hK _ _ ?_
      clear hK K
      try simp only [Act.put, List.setIfInBounds_toArray, List.set_cons_zero, List.set_cons_succ]
      refine wpAny_take (i := 14) (oi := _) (v := .slice (some ⟨g, 0, none⟩) mm s.length) (nth_at rfl) (by kernel_rfl) (by kernel_rfl) (by kernel_rfl) (fun _ _ _ h => h) (Or.inl ⟨by rfl, ?_⟩) ?_
      · intro w; (go_simp <;> (have h := HY1.out; simp [sliced] at h ⊢; first | done | exact h))
      try simp only [Act.put, List.setIfInBounds_toArray, List.set_cons_zero, List.set_cons_succ]
      refine wpAny_ready (rs := [25]) (by kernel_rfl) (by simp) ?_
      refine AllReady.cons (o := _) (nth_at rfl) (fun K hK => ?_) AllReady.nil
      go_simp
      refine hK _ _ ?_
      clear hK K
      try simp only [Act.put, List.setIfInBounds_toArray, List.set_cons_zero, List.set_cons_succ]
      refine wpAny_ready (rs := [26]) (by kernel_rfl) (by simp) ?_
      refine AllReady.cons (o := _) (nth_at rfl) (fun K hK => ?_) AllReady.nil
      go_simp
      with_reducible refine (HSET.out _ rfl).mono ?_
      rintro e w4 ⟨rfl, b4, HEy⟩
      refine hK _ _ ?_
      clear hK K
      try simp only [Act.put, List.setIfInBounds_toArray, List.set_cons_zero, List.set_cons_succ]
      refine wpAny_done (by kernel_rfl) ?_ _
      refine NoPanic.normal ?_
      go_wp2_with fail
      refine wp_label ?_
      go_wp2_with fail
      with_reducible refine HEy.out.mono ?_
      rintro e w5 ⟨rfl, b5⟩
      go_wp2_with fail
      simp only [Exit.noGoto_ret]
      go_ret2
      exact ⟨rfl, b4.trans (b5.mono b4.size)⟩
    refine AllReady.cons (o := _) (nth_at rfl) (fun K hK => ?_) AllReady.nil
    go_simp
    refine hK _ _ ?_
    clear hK K
    try simp only [Act.put, List.setIfInBounds_toArray, List.set_cons_zero, List.set_cons_succ]
    refine wpAny_take (i := 21) (oi := _) (v := ?_) (nth_at rfl) (by kernel_rfl) (by kernel_rfl) (by kernel_rfl) (fun _ _ _ h => h) (Or.inl ⟨by rfl, ?_⟩) ?_
    rotate_left 1
    · intro w; (go_simp <;> with_reducible rfl)
    try simp only [Act.put, List.setIfInBounds_toArray, List.set_cons_zero, List.set_cons_succ]
    refine wpAny_take (i := 22) (oi := _) (v := ?_) (nth_at rfl) (by kernel_rfl) (by kernel_rfl) (by kernel_rfl) (fun _ _ _ h => h) (Or.inl ⟨by rfl, ?_⟩) ?_
    rotate_left 1
    · intro w; (go_simp <;> with_reducible rfl)
    try simp only [Act.put, List.setIfInBounds_toArray, List.set_cons_zero, List.set_cons_succ]
    refine wpAny_take (i := 23) (oi := _) (v := ?_) (nth_at rfl) (by kernel_rfl) (by kernel_rfl) (by kernel_rfl) (fun _ _ _ h => h) (Or.inl ⟨by rfl, ?_⟩) ?_
    rotate_left 1
    · intro w; (go_simp <;> with_reducible rfl)
    try simp only [Act.put, List.setIfInBounds_toArray, List.set_cons_zero, List.set_cons_succ]
    refine wpAny_ready (rs := [5, 11, 24]) (by kernel_rfl) (by simp) ?_
    refine AllReady.cons (o := _) (nth_at rfl) (fun K hK => ?_) ?_
    · go_simp
      refine hK _ _ ?_
      clear hK K
      try simp only [Act.put, List.setIfInBounds_toArray, List.set_cons_zero, List.set_cons_succ]
      refine wpAny_ready (rs := [11, 24]) (by kernel_rfl) (by simp) ?_
      refine AllReady.cons (o := _) (nth_at rfl) (fun K hK => ?_) ?_
      · go_simp
        refine hK _ _ ?_
        clear hK K
        try simp only [Act.put, List.setIfInBounds_toArray, List.set_cons_zero, List.set_cons_succ]
        refine wpAny_take (i := 12) (oi := _) (v := ?_) (nth_at rfl) (by kernel_rfl) (by kernel_rfl) (by kernel_rfl) (fun _ _ _ h => h) (Or.inl ⟨by rfl, ?_⟩) ?_
        rotate_left 1
        · intro w; (go_simp <;> with_reducible rfl)
        try simp only [Act.put, List.setIfInBounds_toArray, List.set_cons_zero, List.set_cons_succ]
        refine wpAny_take (i := 13) (oi := _) (v := ?_) (nth_at rfl) (by kernel_rfl) (by kernel_rfl) (by kernel_rfl) (fun _ _ _ h => h) (Or.inl ⟨by rfl, ?_⟩) ?_
        rotate_left 1
        · intro w; (go_simp <;> with_reducible rfl)
        try simp only [Act.put, List.setIfInBounds_toArray, List.set_cons_zero, List.set_cons_succ]
        refine wpAny_take (i := 14) (oi := _) (v := .slice (some ⟨g, 0, none⟩) mm s.length) (nth_at rfl) (by kernel_rfl) (by kernel_rfl) (by kernel_rfl) (fun _ _ _ h => h) (Or.inl ⟨by rfl, ?_⟩) ?_
        · intro w; (go_simp <;> (have h := HY1.out; simp [sliced] at h ⊢; first | done | exact h))
        try simp only [Act.put, List.setIfInBounds_toArray, List.set_cons_zero, List.set_cons_succ]
        refine wpAny_ready (rs := [24]) (by kernel_rfl) (by simp) ?_
        refine AllReady.cons (o := _) (nth_at rfl) (fun K hK => ?_) AllReady.nil
        go_simp
        refine hK _ _ ?_
        clear hK K
        try simp only [Act.put, List.setIfInBounds_toArray, List.set_cons_zero, List.set_cons_succ]
        refine wpAny_ready (rs := [25]) (by kernel_rfl) (by simp) ?_
        refine AllReady.cons (o := _) (nth_at rfl) (fun K hK => ?_) AllReady.nil
        go_simp
        refine hK _ _ ?_
        clear hK K
        try simp only [Act.put, List.setIfInBounds_toArray, List.set_cons_zero, List.set_cons_succ]
        refine wpAny_ready (rs := [26]) (by kernel_rfl) (by simp) ?_
        refine AllReady.cons (o := _) (nth_at rfl) (fun K hK => ?_) AllReady.nil
        go_simp
        with_reducible refine (HSET.out _ rfl).mono ?_
        rintro e w4 ⟨rfl, b4, HEy⟩
        refine hK _ _ ?_
        clear hK K
        try simp only [Act.put, List.setIfInBounds_toArray, List.set_cons_zero, List.set_cons_succ]
        refine wpAny_done (by kernel_rfl) ?_ _
        refine NoPanic.normal ?_
        go_wp2_with fail
        refine wp_label ?_
        go_wp2_with fail
        with_reducible refine HEy.out.mono ?_
        rintro e w5 ⟨rfl, b5⟩
        go_wp2_with fail
        simp only [Exit.noGoto_ret]
        go_ret2
        exact ⟨rfl, b4.trans (b5.mono b4.size)⟩
      refine AllReady.cons (o := _) (nth_at rfl) (fun K hK => ?_) AllReady.nil
      go_simp
      refine hK _ _ ?_
      clear hK K
      try simp only [Act.put, List.setIfInBounds_toArray, List.set_cons_zero, List.set_cons_succ]
      refine wpAny_ready (rs := [11]) (by kernel_rfl) (by simp) ?_
      refine AllReady.cons (o := _) (nth_at rfl) (fun K hK => ?_) AllReady.nil
      go_simp
      refine hK _ _ ?_
      clear hK K
      try simp only [Act.put, List.setIfInBounds_toArray, List.set_cons_zero, List.set_cons_succ]
      refine wpAny_take (i := 12) (oi := _) (v := ?_) (nth_at rfl) (by kernel_rfl) (by kernel_rfl) (by kernel_rfl) (fun _ _ _ h => h) (Or.inl ⟨by rfl, ?_⟩) ?_
      rotate_left 1
      · intro w; (go_simp <;> with_reducible rfl)
      try simp only [Act.put, List.setIfInBounds_toArray, List.set_cons_zero, List.set_cons_succ]
      refine wpAny_take (i := 13) (oi := _) (v := ?_) (nth_at rfl) (by kernel_rfl) (by kernel_rfl) (by kernel_rfl) (fun _ _ _ h => h) (Or.inl ⟨by rfl, ?_⟩) ?_
      rotate_left 1
      · intro w; (go_simp <;> with_reducible rfl)
      try simp only [Act.put, List.setIfInBounds_toArray, List.set_cons_zero, List.set_cons_succ]
      refine wpAny_take (i := 14) (oi := _) (v := .slice (some ⟨g, 0, none⟩) mm s.length) (nth_at rfl) (by kernel_rfl) (by kernel_rfl) (by kernel_rfl) (fun _ _ _ h => h) (Or.inl ⟨by rfl, ?_⟩) ?_
      · intro w; (go_simp <;> (have h := HY1.out; simp [sliced] at h ⊢; first | done | exact h))
      try simp only [Act.put, List.setIfInBounds_toArray, List.set_cons_zero, List.set_cons_succ]
      refine wpAny_ready (rs := [25]) (by kernel_rfl) (by simp) ?_
      refine AllReady.cons (o := _) (nth_at rfl) (fun K hK => ?_) AllReady.nil
      go_simp
      refine hK _ _ ?_
      clear hK K
      try simp only [Act.put, List.setIfInBounds_toArray, List.set_cons_zero, List.set_cons_succ]
      refine wpAny_ready (rs := [26]) (by kernel_rfl) (by simp) ?_
      refine AllReady.cons (o := _) (nth_at rfl) (fun K hK => ?_) AllReady.nil
      go_simp
      with_reducible refine (HSET.out _ rfl).mono ?_
      rintro e w4 ⟨rfl, b4, HEy⟩
      refine hK _ _ ?_
      clear hK K
      try simp only [Act.put, List.setIfInBounds_toArray, List.set_cons_zero, List.set_cons_succ]
      refine wpAny_done (by kernel_rfl) ?_ _
      refine NoPanic.normal ?_
      go_wp2_with fail
      refine wp_label ?_
      go_wp2_with fail
      with_reducible refine HEy.out.mono ?_
      rintro e w5 ⟨rfl, b5⟩
      go_wp2_with fail
      simp only [Exit.noGoto_ret]
      go_ret2
      exact ⟨rfl, b4.trans (b5.mono b4.size)⟩
    refine AllReady.cons (o := _) (nth_at rfl) (fun K hK => ?_) ?_
    · go_simp
      refine hK _ _ ?_
      clear hK K
      try simp only [Act.put, List.setIfInBounds_toArray, List.set_cons_zero, List.set_cons_succ]
      refine wpAny_take (i := 12) (oi := _) (v := ?_) (nth_at rfl) (by kernel_rfl) (by kernel_rfl) (by kernel_rfl) (fun _ _ _ h => h) (Or.inl ⟨by rfl, ?_⟩) ?_
      rotate_left 1
      · intro w; (go_simp <;> with_reducible rfl)
      try simp only [Act.put, List.setIfInBounds_toArray, List.set_cons_zero, List.set_cons_succ]
      refine wpAny_take (i := 13) (oi := _) (v := ?_) (nth_at rfl) (by kernel_rfl) (by kernel_rfl) (by kernel_rfl) (fun _ _ _ h => h) (Or.inl ⟨by rfl, ?_⟩) ?_
      rotate_left 1
      · intro w; (go_simp <;> with_reducible rfl)
      try simp only [Act.put, List.setIfInBounds_toArray, List.set_cons_zero, List.set_cons_succ]
      refine wpAny_ready (rs := [5, 24]) (by kernel_rfl) (by simp) ?_
      refine AllReady.cons (o := _) (nth_at rfl) (fun K hK => ?_) ?_
      · go_simp
        refine hK _ _ ?_
        clear hK K
        try simp only [Act.put, List.setIfInBounds_toArray, List.set_cons_zero, List.set_cons_succ]
        refine wpAny_take (i := 14) (oi := _) (v := .slice (some ⟨g, 0, none⟩) mm s.length) (nth_at rfl) (by kernel_rfl) (by kernel_rfl) (by kernel_rfl) (fun _ _ _ h => h) (Or.inl ⟨by rfl, ?_⟩) ?_
        · intro w; (go_simp <;> (have h := HY1.out; simp [sliced] at h ⊢; first | done | exact h))
        try simp only [Act.put, List.setIfInBounds_toArray, List.set_cons_zero, List.set_cons_succ]
        refine wpAny_ready (rs := [24]) (by kernel_rfl) (by simp) ?_
        refine AllReady.cons (o := _) (nth_at rfl) (fun K hK => ?_) AllReady.nil
        go_simp
        refine hK _ _ ?_
        clear hK K
        try simp only [Act.put, List.setIfInBounds_toArray, List.set_cons_zero, List.set_cons_succ]
        refine wpAny_ready (rs := [25]) (by kernel_rfl) (by simp) ?_
        refine AllReady.cons (o := _) (nth_at rfl) (fun K hK => ?_) AllReady.nil
        go_simp
        refine hK _ _ ?_
        clear hK K
        try simp only [Act.put, List.setIfInBounds_toArray, List.set_cons_zero, List.set_cons_succ]
        refine wpAny_ready (rs := [26]) (by kernel_rfl) (by simp) ?_
        refine AllReady.cons (o := _) (nth_at rfl) (fun K hK => ?_) AllReady.nil
        go_simp
        with_reducible refine (HSET.out _ rfl).mono ?_
        rintro e w4 ⟨rfl, b4, HEy⟩
        refine hK _ _ ?_
        clear hK K
        try simp only [Act.put, List.setIfInBounds_toArray, List.set_cons_zero, List.set_cons_succ]
        refine wpAny_done (by kernel_rfl) ?_ _
        refine NoPanic.normal ?_
        go_wp2_with fail
        refine wp_label ?_
        go_wp2_with fail
        with_reducible refine HEy.out.mono ?_
        rintro e w5 ⟨rfl, b5⟩
        go_wp2_with fail
        simp only [Exit.noGoto_ret]
        go_ret2
        exact ⟨rfl, b4.trans (b5.mono b4.size)⟩
      refine AllReady.cons (o := _) (nth_at rfl) (fun K hK => ?_) AllReady.nil
      go_simp
      refine hK _ _ ?_
      clear hK K
      try simp only [Act.put, List.setIfInBounds_toArray, List.set_cons_zero, List.set_cons_succ]
      refine wpAny_ready (rs := [5]) (by kernel_rfl) (by simp) ?_
      refine AllReady.cons (o := _) (nth_at rfl) (fun K hK => ?_) AllReady.nil
      go_simp
      refine hK _ _ ?_
      clear hK K
      try simp only [Act.put, List.setIfInBounds_toArray, List.set_cons_zero, List.set_cons_succ]
      refine wpAny_take (i := 14) (oi := _) (v := .slice (some ⟨g, 0, none⟩) mm s.length) (nth_at rfl) (by kernel_rfl) (by kernel_rfl) (by kernel_rfl) (fun _ _ _ h => h) (Or.inl ⟨by rfl, ?_⟩) ?_
      · intro w; (go_simp <;> (have h := HY1.out; simp [sliced] at h ⊢; first | done | exact h))
      try simp only [Act.put, List.setIfInBounds_toArray, List.set_cons_zero, List.set_cons_succ]
      refine wpAny_ready (rs := [25]) (by kernel_rfl) (by simp) ?_
      refine AllReady.cons (o := _) (nth_at rfl) (fun K hK => ?_) AllReady.nil
      go_simp
      refine hK _ _ ?_
      clear hK K
      try simp only [Act.put, List.setIfInBounds_toArray, List.set_cons_zero, List.set_cons_succ]
      refine wpAny_ready (rs := [26]) (by kernel_rfl) (by simp) ?_
      refine AllReady.cons (o := _) (nth_at rfl) (fun K hK => ?_) AllReady.nil
      go_simp
      with_reducible refine (HSET.out _ rfl).mono ?_
      rintro e w4 ⟨rfl, b4, HEy⟩
      refine hK _ _ ?_
      clear hK K
      try simp only [Act.put, List.setIfInBounds_toArray, List.set_cons_zero, List.set_cons_succ]
      refine wpAny_done (by kernel_rfl) ?_ _
      refine NoPanic.normal ?_
      go_wp2_with fail
      refine wp_label ?_
      go_wp2_with fail
      with_reducible refine HEy.out.mono ?_
      rintro e w5 ⟨rfl, b5⟩
      go_wp2_with fail
      simp only [Exit.noGoto_ret]
      go_ret2
      exact ⟨rfl, b4.trans (b5.mono b4.size)⟩
    refine AllReady.cons (o := _) (nth_at rfl) (fun K hK => ?_) AllReady.nil
    go_simp
    refine hK _ _ ?_
    clear hK K
    try simp only [Act.put, List.setIfInBounds_toArray, List.set_cons_zero, List.set_cons_succ]
    refine wpAny_ready (rs := [5, 11]) (by kernel_rfl) (by simp) ?_
    refine AllReady.cons (o := _) (nth_at rfl) (fun K hK => ?_) ?_
    · go_simp
      refine hK _ _ ?_
      clear hK K
      try simp only [Act.put, List.setIfInBounds_toArray, List.set_cons_zero, List.set_cons_succ]
      refine wpAny_ready (rs := [11]) (by kernel_rfl) (by simp) ?_
      refine AllReady.cons (o := _) (nth_at rfl) (fun K hK => ?_) AllReady.nil
      go_simp
      refine hK _ _ ?_
      clear hK K
      try simp only [Act.put, List.setIfInBounds_toArray, List.set_cons_zero, List.set_cons_succ]
      refine wpAny_take (i := 12) (oi := _) (v := ?_) (nth_at rfl) (by kernel_rfl) (by kernel_rfl) (by kernel_rfl) (fun _ _ _ h => h) (Or.inl ⟨by rfl, ?_⟩) ?_
      rotate_left 1
      · intro w; (go_simp <;> with_reducible rfl)
      try simp only [Act.put, List.setIfInBounds_toArray, List.set_cons_zero, List.set_cons_succ]
      refine wpAny_take (i := 13) (oi := _) (v := ?_) (nth_at rfl) (by kernel_rfl) (by kernel_rfl) (by kernel_rfl) (fun _ _ _ h => h) (Or.inl ⟨by rfl, ?_⟩) ?_
      rotate_left 1
      · intro w; (go_simp <;> with_reducible rfl)
      try simp only [Act.put, List.setIfInBounds_toArray, List.set_cons_zero, List.set_cons_succ]
      refine wpAny_take (i := 14) (oi := _) (v := .slice (some ⟨g, 0, none⟩) mm s.length) (nth_at rfl) (by kernel_rfl) (by kernel_rfl) (by kernel_rfl) (fun _ _ _ h => h) (Or.inl ⟨by rfl, ?_⟩) ?_
      · intro w; (go_simp <;> (have h := HY1.out; simp [sliced] at h ⊢; first | done | exact h))
      try simp only [Act.put, List.setIfInBounds_toArray, List.set_cons_zero, List.set_cons_succ]
      refine wpAny_ready (rs := [25]) (by kernel_rfl) (by simp) ?_
      refine AllReady.cons (o := _) (nth_at rfl) (fun K hK => ?_) AllReady.nil
      go_simp
      refine hK _ _ ?_
      clear hK K
      try simp only [Act.put, List.setIfInBounds_toArray, List.set_cons_zero, List.set_cons_succ]
      refine wpAny_ready (rs := [26]) (by kernel_rfl) (by simp) ?_
      refine AllReady.cons (o := _) (nth_at rfl) (fun K hK => ?_) AllReady.nil
      go_simp
      with_reducible refine (HSET.out _ rfl).mono ?_
      rintro e w4 ⟨rfl, b4, HEy⟩
      refine hK _ _ ?_
      clear hK K
      try simp only [Act.put, List.setIfInBounds_toArray, List.set_cons_zero, List.set_cons_succ]
      refine wpAny_done (by kernel_rfl) ?_ _
      refine NoPanic.normal ?_
      go_wp2_with fail
      refine wp_label ?_
      go_wp2_with fail
      with_reducible refine HEy.out.mono ?_
      rintro e w5 ⟨rfl, b5⟩
      go_wp2_with fail
      simp only [Exit.noGoto_ret]
      go_ret2
      exact ⟨rfl, b4.trans (b5.mono b4.size)⟩
    refine AllReady.cons (o := _) (nth_at rfl) (fun K hK => ?_) AllReady.nil
    go_simp
    refine hK _ _ ?_
    clear hK K
    try simp only [Act.put, List.setIfInBounds_toArray, List.set_cons_zero, List.set_cons_succ]
    refine wpAny_take (i := 12) (oi := _) (v := ?_) (nth_at rfl) (by kernel_rfl) (by kernel_rfl) (by kernel_rfl) (fun _ _ _ h => h) (Or.inl ⟨by rfl, ?_⟩) ?_
    rotate_left 1
    · intro w; (go_simp <;> with_reducible rfl)
    try simp only [Act.put, List.setIfInBounds_toArray, List.set_cons_zero, List.set_cons_succ]
    refine wpAny_take (i := 13) (oi := _) (v := ?_) (nth_at rfl) (by kernel_rfl) (by kernel_rfl) (by kernel_rfl) (fun _ _ _ h => h) (Or.inl ⟨by rfl, ?_⟩) ?_
    rotate_left 1
    · intro w; (go_simp <;> with_reducible rfl)
    try simp only [Act.put, List.setIfInBounds_toArray, List.set_cons_zero, List.set_cons_succ]
    refine wpAny_ready (rs := [5]) (by kernel_rfl) (by simp) ?_
    refine AllReady.cons (o := _) (nth_at rfl) (fun K hK => ?_) AllReady.nil
    go_simp
    refine hK _ _ ?_
    clear hK K
    try simp only [Act.put, List.setIfInBounds_toArray, List.set_cons_zero, List.set_cons_succ]
    refine wpAny_take (i := 14) (oi := _) (v := .slice (some ⟨g, 0, none⟩) mm s.length) (nth_at rfl) (by kernel_rfl) (by kernel_rfl) (by kernel_rfl) (fun _ _ _ h => h) (Or.inl ⟨by rfl, ?_⟩) ?_
    · intro w; (go_simp <;> (have h := HY1.out; simp [sliced] at h ⊢; first | done | exact h))
    try simp only [Act.put, List.setIfInBounds_toArray, List.set_cons_zero, List.set_cons_succ]
    refine wpAny_ready (rs := [25]) (by kernel_rfl) (by simp) ?_
    refine AllReady.cons (o := _) (nth_at rfl) (fun K hK => ?_) AllReady.nil
    go_simp
    refine hK _ _ ?_
    clear hK K
    try simp only [Act.put, List.setIfInBounds_toArray, List.set_cons_zero, List.set_cons_succ]
    refine wpAny_ready (rs := [26]) (by kernel_rfl) (by simp) ?_
    refine AllReady.cons (o := _) (nth_at rfl) (fun K hK => ?_) AllReady.nil
    go_simp
    with_reducible refine (HSET.out _ rfl).mono ?_
    rintro e w4 ⟨rfl, b4, HEy⟩
    refine hK _ _ ?_
    clear hK K
    try simp only [Act.put, List.setIfInBounds_toArray, List.set_cons_zero, List.set_cons_succ]
    refine wpAny_done (by kernel_rfl) ?_ _
    refine NoPanic.normal ?_
    go_wp2_with fail
    refine wp_label ?_
    go_wp2_with fail
    with_reducible refine HEy.out.mono ?_
    rintro e w5 ⟨rfl, b5⟩
    go_wp2_with fail
    simp only [Exit.noGoto_ret]
    go_ret2
    exact ⟨rfl, b4.trans (b5.mono b4.size)⟩
end Go.Proofs.YthclfkhakmcnbaaGreatDoor
