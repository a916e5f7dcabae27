/- Joined: WldK; WldL -/
import Derived.Test.YtmjmmcdhpognaaaGreatDoorJWE
/- Walks of layer 11: a label's space is set. -/
namespace Go.Proofs.YtmjmmcdhpognaaaGreatDoor
open Go.RowKit Go.Shelf
attribute [local go_sem] Oper.semAt_some
set_option maxHeartbeats 1000000 in
theorem join3_any (base : Nat) (L1 L2 L3 : List PartD) (v1 v2 v3 : Value) (g : Nat) (W : World) (t : TypeId) (h1 : PartsO base 46 40 9 W v1 L1) (h2 : PartsO base 46 40 9 W v2 L2) (h3 : PartsO base 46 40 9 W v3 L3)
    (hg : Blk W g #[v1, v2, v3] t) (hb : base ≤ W.heap.size) (m1 : L1.length ≤ 1000000) (m2 : L2.length ≤ 1000000) (m3 : L3.length ≤ 1000000) :
    Calls Tryz.prog 63 #[.slice (some ⟨g, 0, none⟩) 3 3] W fun e w' => ∃ v', e = .returned v' ∧ PartsO base 46 40 9 w' v' (L1 ++ (L2 ++ L3)) ∧ Below W.heap.size W w' := by
  obtain ⟨x1, r1, s1⟩ := h1
  obtain ⟨x2, r2, s2⟩ := h2
  obtain ⟨x3, r3, s3⟩ := h3
  obtain ⟨a1, c1, rfl, z1⟩ := row_form r1
  obtain ⟨a2, c2, rfl, z2⟩ := row_form r2
  obtain ⟨a3, c3, rfl, z3⟩ := row_form r3
  refine (concat_any g a1 a2 a3 _ _ _ c1 c2 c3 x1 x2 x3 W ((hg.cell 0).trans rfl) ((hg.cell 1).trans rfl) ((hg.cell 2).trans rfl) (SlR.of_row r1) (SlR.of_row r2) (SlR.of_row r3) z1 z2 z3 (partO_one s1) (partO_one s2) (partO_one s3) m1 m2 m3).mono ?_
  rintro e w' ⟨v', rfl, hr, hbw⟩
  have hgr := grown_of_below hbw none
  have hk : ∀ {l : List PartD} {c : List Value}, Rows (PartO base 40 9 W) l c → Rows (PartO base 40 9 w') l c := fun h => h.mono fun x _ c hc => hc.kept hgr (RowT.none _ _)
  refine ⟨v', rfl, ⟨x1 ++ x2 ++ x3, ?_, ?_⟩, hbw⟩
  · rw [List.length_append, List.length_append, ← Nat.add_assoc]
    exact own_base hr hb
  · rw [List.append_assoc]
    exact (hk s1).append ((hk s2).append (hk s3))
/-- what is put between the two pieces -/
def midL (a : LblD) (os : List ObjD) : List PartD := if os.isEmpty then [] else [⟨a.lv, a.cs, a.ig, os⟩]
def setPost (q base : Nat) (w : World) (l : List PartD) (r : Ending) (w' : World) : Prop :=
  r = .returned (.tuple #[]) ∧ ∃ v', Blk w' q #[v'] 69 ∧ PartsO base 46 40 9 w' v' l ∧ w.grownBy w' (some q)
set_option maxRecDepth 100000 in
set_option maxHeartbeats 4000000 in
theorem set_any (l : List PartD) (hl : FitsW l) (hs : Srt l) (os : List ObjD) (ho : FitsS os) (q : Nat) (v ov : Value) (a : LblD) (w : World) (hq : Blk w q #[v] 69) (hv : PartsV w v l) (hov : ObjsV w ov os) :
    Calls Tryz.prog 39 #[.pointer (some ⟨q, 0, none⟩), lblV a, ov] w (setPost q w.heap.size w (putW l a os)) := by
  obtain ⟨ao, cap, rfl, -⟩ := hv.at
  obtain ⟨ao2, cap2, rfl, -⟩ := hov.at
  have hcap := hv.cap_le
  have hql := hq.lt
  have HT : Hid (l.take (findN l a) ++ (midL a os ++ l.drop (findN l a + if findB l a then 1 else 0)) = putW l a os) := put_eq a os hs
  generalize putW l a os = T at *
  have hNl := findN_le l a
  have hRl : findN l a + (if findB l a then 1 else 0) ≤ l.length := by
    by_cases h : findB l a = true
    · have := (find_at a hs).2 h
      obtain ⟨h1, _⟩ := this
      rw [if_pos h]; omega
    · rw [if_neg h]; omega
  have HF := fun W (h : KeepC w W) => find_any l hl hs q (.slice ao l.length cap) a W (h.2 _ _ _ ((hq.cell 0).trans rfl)) (hv.keep h)
  generalize findN l a = N at *
  generalize findB l a = F at *
  have hf1 : FitsW (l.take N) := ⟨by rw [List.length_take]; have := hl.1; omega, fun x hx => hl.2 x (List.mem_of_mem_take hx)⟩
  have hP1 := hv.sub 0 N N (Nat.zero_le _) hNl (Nat.le_refl _) (Nat.le_trans hNl hcap)
  have hP3 := hv.sub (N + if F then 1 else 0) l.length cap hRl (Nat.le_refl _) hcap (Nat.le_refl _)
  rw [List.drop_zero, Nat.sub_zero] at hP1
  rw [List.take_of_length_le (by rw [List.length_drop]; exact Nat.le_refl _)] at hP3
  have hf3 : FitsW (l.drop (N + if F then 1 else 0)) := ⟨by rw [List.length_drop]; have := hl.1; omega, fun x hx => hl.2 x (List.mem_of_mem_drop hx)⟩
  generalize l.take N = L1 at *
  generalize l.drop (N + if F then 1 else 0) = L3 at *
  generalize hy1 : sliced ao 0 N N 4 = y1 at hP1
  generalize hy3 : sliced ao (N + if F then 1 else 0) l.length cap 4 = y3 at hP3
  have hRz : N + (if F then 1 else 0) ≤ 1000001 := by have := hl.1; omega
  have HL := fun W (h : KeepC w W) => objects_any os ho.1 (fits_items ho) (.slice ao2 os.length cap2) W (hov.keep h)
  have hnz : (N : Int) ≤ (l.length : Int) := by omega
  have hnz0 : (0 : Int) ≤ (N : Int) := by omega
  have hcz : (l.length : Int) ≤ (cap : Int) := by omega
  have hll : (l.length : Int) ≤ 1000000 := by have := hl.1; omega
  have hlc : (N : Int) ≤ (cap : Int) := by omega
  obtain ⟨l2, S2, i2⟩ := a
  have hB := (Below.refl _ w).alloc (Nat.le_refl _) (.cells #[.int .i64 l2, .int .u64 S2, .int .i64 i2] 25)
  have hb0 := Blk.new w #[.int .i64 l2, .int .u64 S2, .int .i64 i2] 25
  have hzW : (w.alloc (.cells #[.int .i64 l2, .int .u64 S2, .int .i64 i2] 25)).heap.size = w.heap.size + 1 := by simp
  go_enter Tryz.func39, Tryz.ntmps39
  go_wp2_with fail
  generalize (w.alloc (.cells #[.int .i64 l2, .int .u64 S2, .int .i64 i2] 25)) = W0 at *
  have j0 := hb0.cell 0
  have j1 := hb0.cell 1
  have j2 := hb0.cell 2
  simp at j0 j1 j2
  have HFd := HF W0.drew (KeepC.of_below hB.drew)
  clear HF
  have SK : Hid (∀ W, Below W0.heap.size W0 W → W.cell? ⟨w.heap.size, 0, none⟩ = some (.int .i64 l2) ∧ W.cell? ⟨w.heap.size, 1, none⟩ = some (.int .u64 S2) ∧ W.cell? ⟨w.heap.size, 2, none⟩ = some (.int .i64 i2)) := by
    show ∀ W, _
    intro W h
    have hk := (KeepC.of_below h).2
    exact ⟨hk _ _ _ j0, hk _ _ _ j1, hk _ _ _ j2⟩
  have HY1 := Lib.hid hy1
  have HY3 := Lib.hid hy3
  have HRz := Lib.hid hRz
  have HRl := Lib.hid hRl
  clear hy1 hy3 hRz hRl
  go_region_held3 (fun u => u.cell? ⟨w.heap.size, 0, none⟩ = some (.int .i64 l2) ∧ u.cell? ⟨w.heap.size, 1, none⟩ = some (.int .u64 S2) ∧ u.cell? ⟨w.heap.size, 2, none⟩ = some (.int .i64 i2))
    (first | go_keep | exact kk1)
    (first
      | (go_at_call 27; go_must (with_reducible refine HFd.mono ?_); rintro e w1 ⟨rfl, hb1⟩; have hbb := (Below.refl W0.heap.size W0).drew.trans hb1; have kk1 := SK.out _ hbb))
  all_goals (have hX0 := hB.trans (hbb.mono hB.size))
  all_goals (have hq0 : w.cell? ⟨q, 0, none⟩ = some (.slice ao l.length cap) := (hq.cell 0).trans rfl)
  all_goals (clear HFd)
  all_goals (cases F)
  · have hRl := HRl.out
    have hRz := HRz.out
    simp only [Bool.false_eq_true, if_false, Nat.add_zero] at hRl hRz
    by_cases hos : os.length = 0
    · obtain rfl := List.length_eq_zero_iff.1 hos
      have hmid : midL ⟨l2, S2, i2⟩ [] = [] := rfl
      rw [hmid] at HT
      have hP9 : PartsO w.heap.size 46 40 9 w1 (.slice none 0 0) [] := PartsO.nil _ _ _ _ _
      generalize hL2 : ([] : List PartD) = L2 at hP9 HT
      have hl2 : L2.length ≤ 1000000 := by rw [← hL2]; decide
      go_wp2_with fail
      have hX := hX0
      have q10 := (KeepC.of_below hX).2 _ _ _ hq0
      clear HL hL2
      refine wp_region_noPanic ?_
      refine wp_region_any (by kernel_rfl) ?_
      change wpAny _ _ _ _ _ _ _ (World.drew _)
      refine wpAny_take (i := 0) (oi := _) (v := ?_) (nth_at rfl) (by kernel_rfl) (by kernel_rfl) (by kernel_rfl) (fun _ _ _ h => h) (Or.inl ⟨by rfl, ?_⟩) ?_
      rotate_left 1
      · intro w; (go_simp <;> with_reducible rfl)
      try simp only [Act.put, List.setIfInBounds_toArray, List.set_cons_zero, List.set_cons_succ]
      refine wpAny_take (i := 1) (oi := _) (v := ?_) (nth_at rfl) (by kernel_rfl) (by kernel_rfl) (by kernel_rfl) (fun _ _ _ h => h) (Or.inl ⟨by rfl, ?_⟩) ?_
      rotate_left 1
      · intro w; (go_simp <;> with_reducible rfl)
      try simp only [Act.put, List.setIfInBounds_toArray, List.set_cons_zero, List.set_cons_succ]
      refine wpAny_take (i := 2) (oi := _) (v := ?_) (nth_at rfl) (by kernel_rfl) (by kernel_rfl) (by kernel_rfl) (fun _ _ _ h => h) (Or.inl ⟨by rfl, ?_⟩) ?_
      rotate_left 1
      · intro w; (go_simp <;> with_reducible rfl)
      try simp only [Act.put, List.setIfInBounds_toArray, List.set_cons_zero, List.set_cons_succ]
      refine wpAny_take (i := 3) (oi := _) (v := ?_) (nth_at rfl) (by kernel_rfl) (by kernel_rfl) (by kernel_rfl) (fun _ _ _ h => h) (Or.inl ⟨by rfl, ?_⟩) ?_
      rotate_left 1
      · intro w; (go_simp <;> with_reducible rfl)
      try simp only [Act.put, List.setIfInBounds_toArray, List.set_cons_zero, List.set_cons_succ]
      refine wpAny_take (i := 4) (oi := _) (v := ?_) (nth_at rfl) (by kernel_rfl) (by kernel_rfl) (by kernel_rfl) (fun _ _ _ h => h) (Or.inl ⟨by rfl, ?_⟩) ?_
      rotate_left 1
      · intro w; (go_simp <;> with_reducible rfl)
      try simp only [Act.put, List.setIfInBounds_toArray, List.set_cons_zero, List.set_cons_succ]
      refine wpAny_take (i := 6) (oi := _) (v := ?_) (nth_at rfl) (by kernel_rfl) (by kernel_rfl) (by kernel_rfl) (fun _ _ _ h => h) (Or.inl ⟨by rfl, ?_⟩) ?_
      rotate_left 1
      · intro w; (go_simp <;> with_reducible rfl)
      try simp only [Act.put, List.setIfInBounds_toArray, List.set_cons_zero, List.set_cons_succ]
      refine wpAny_take (i := 7) (oi := _) (v := ?_) (nth_at rfl) (by kernel_rfl) (by kernel_rfl) (by kernel_rfl) (fun _ _ _ h => h) (Or.inl ⟨by rfl, ?_⟩) ?_
      rotate_left 1
      · intro w; (go_simp <;> with_reducible rfl)
      try simp only [Act.put, List.setIfInBounds_toArray, List.set_cons_zero, List.set_cons_succ]
      refine wpAny_take (i := 10) (oi := _) (v := ?_) (nth_at rfl) (by kernel_rfl) (by kernel_rfl) (by kernel_rfl) (fun _ _ _ h => h) (Or.inl ⟨by rfl, ?_⟩) ?_
      rotate_left 1
      · intro w; (go_simp <;> with_reducible rfl)
      try simp only [Act.put, List.setIfInBounds_toArray, List.set_cons_zero, List.set_cons_succ]
      refine wpAny_take (i := 11) (oi := _) (v := ?_) (nth_at rfl) (by kernel_rfl) (by kernel_rfl) (by kernel_rfl) (fun _ _ _ h => h) (Or.inl ⟨by rfl, ?_⟩) ?_
      rotate_left 1
      · intro w; (go_simp <;> with_reducible rfl)
      try simp only [Act.put, List.setIfInBounds_toArray, List.set_cons_zero, List.set_cons_succ]
      refine wpAny_take (i := 12) (oi := _) (v := ?_) (nth_at rfl) (by kernel_rfl) (by kernel_rfl) (by kernel_rfl) (fun _ _ _ h => h) (Or.inl ⟨by rfl, ?_⟩) ?_
      rotate_left 1
      · intro w; (go_simp <;> with_reducible rfl)
      try simp only [Act.put, List.setIfInBounds_toArray, List.set_cons_zero, List.set_cons_succ]
      refine wpAny_take (i := 13) (oi := _) (v := ?_) (nth_at rfl) (by kernel_rfl) (by kernel_rfl) (by kernel_rfl) (fun _ _ _ h => h) (Or.inl ⟨by rfl, ?_⟩) ?_
      rotate_left 1
      · intro w; (go_simp <;> with_reducible rfl)
      try simp only [Act.put, List.setIfInBounds_toArray, List.set_cons_zero, List.set_cons_succ]
      refine wpAny_take (i := 14) (oi := _) (v := ?_) (nth_at rfl) (by kernel_rfl) (by kernel_rfl) (by kernel_rfl) (fun _ _ _ h => h) (Or.inl ⟨by rfl, ?_⟩) ?_
      rotate_left 1
      · intro w; (go_simp <;> with_reducible rfl)
      try simp only [Act.put, List.setIfInBounds_toArray, List.set_cons_zero, List.set_cons_succ]
      refine wpAny_take (i := 16) (oi := _) (v := ?_) (nth_at rfl) (by kernel_rfl) (by kernel_rfl) (by kernel_rfl) (fun _ _ _ h => h) (Or.inl ⟨by rfl, ?_⟩) ?_
      rotate_left 1
      · intro w; (go_simp <;> with_reducible rfl)
      try simp only [Act.put, List.setIfInBounds_toArray, List.set_cons_zero, List.set_cons_succ]
      refine wpAny_ready (rs := [5, 15]) (by kernel_rfl) (by simp) ?_
      refine AllReady.cons (o := _) (nth_at rfl) (fun K hK => ?_) ?_
      · go_simp
        refine hK _ _ ?_
        clear hK K
        try simp only [Act.put, List.setIfInBounds_toArray, List.set_cons_zero, List.set_cons_succ]
        refine wpAny_take (i := 8) (oi := _) (v := y1) (nth_at rfl) (by kernel_rfl) (by kernel_rfl) (by kernel_rfl) (fun _ _ _ h => h) (Or.inl ⟨by rfl, ?_⟩) ?_
        · intro w; (go_simp <;> (rw [← HY1.out]; simp [sliced, add0_map]))
        try simp only [Act.put, List.setIfInBounds_toArray, List.set_cons_zero, List.set_cons_succ]
        refine wpAny_ready (rs := [9, 15]) (by kernel_rfl) (by simp) ?_
        refine AllReady.cons (o := _) (nth_at rfl) (fun K hK => ?_) ?_
        · go_simp
          with_reducible refine (own_any L1 hf1 y1 _ (hP1.keep (KeepC.of_below hX.drew))).mono ?_
          rintro e w4 ⟨v4, rfl, r4, b4⟩
          have B4 := hX.drew.trans (b4.mono hX.drew.size)
          have Q4 := PartsO.base r4 hX.drew.size
          obtain ⟨e41, e42, rfl, -⟩ := row_form r4.choose_spec.1
          have q40 := (KeepC.of_below B4).2 _ _ _ hq0
          try dsimp only
          refine hK _ _ ?_
          clear hK K
          try simp only [Act.put, List.setIfInBounds_toArray, List.set_cons_zero, List.set_cons_succ]
          refine wpAny_ready (rs := [15]) (by kernel_rfl) (by simp) ?_
          refine AllReady.cons (o := _) (nth_at rfl) (fun K hK => ?_) AllReady.nil
          go_simp
          refine hK _ _ ?_
          clear hK K
          try simp only [Act.put, List.setIfInBounds_toArray, List.set_cons_zero, List.set_cons_succ]
          refine wpAny_take (i := 17) (oi := _) (v := y3) (nth_at rfl) (by kernel_rfl) (by kernel_rfl) (by kernel_rfl) (fun _ _ _ h => h) (Or.inl ⟨by rfl, ?_⟩) ?_
          · intro w; (go_simp <;> (rw [← HY3.out]; simp [sliced, add0_map]))
          try simp only [Act.put, List.setIfInBounds_toArray, List.set_cons_zero, List.set_cons_succ]
          refine wpAny_ready (rs := [18]) (by kernel_rfl) (by simp) ?_
          refine AllReady.cons (o := _) (nth_at rfl) (fun K hK => ?_) AllReady.nil
          go_simp
          with_reducible refine (own_any L3 hf3 y3 _ (hP3.keep (KeepC.of_below B4))).mono ?_
          rintro e w5 ⟨v5, rfl, r5, b5⟩
          have B5 := B4.trans (b5.mono B4.size)
          have Q5 := PartsO.base r5 B4.size
          obtain ⟨e51, e52, rfl, -⟩ := row_form r5.choose_spec.1
          have q50 := (KeepC.of_below B5).2 _ _ _ hq0
          try dsimp only
          refine hK _ _ ?_
          clear hK K
          try simp only [Act.put, List.setIfInBounds_toArray, List.set_cons_zero, List.set_cons_succ]
          refine wpAny_ready (rs := [19]) (by kernel_rfl) (by simp) ?_
          refine AllReady.cons (o := _) (nth_at rfl) (fun K hK => ?_) AllReady.nil
          go_simp
          obtain ⟨W6, hW6⟩ : ∃ W6, w5.alloc (.cells #[.slice e41 L1.length e42, .slice none 0 0, .slice e51 L3.length e52] 22) = W6 := ⟨_, rfl⟩
          rw [hW6]
          have b56 : Below w5.heap.size w5 W6 := by rw [← hW6]; exact (Below.refl _ w5).alloc (Nat.le_refl _) _
          have B6 : Below w.heap.size w W6 := B5.trans (b56.mono B5.size)
          have k6 : Blk W6 w5.heap.size #[.slice e41 L1.length e42, .slice none 0 0, .slice e51 L3.length e52] 22 := by rw [← hW6]; exact Blk.new w5 _ _
          have g45 := grown_of_below b5 none
          have g56 := grown_of_below b56 none
          have gX4 := grown_of_below ((Below.refl w1.heap.size w1).drew.trans b4) none
          have HJ := Lib.hid (join3_any w.heap.size L1 L2 L3 _ _ _ w5.heap.size W6 _ ((Q4.kept g45 (RowT.none _ _)).kept g56 (RowT.none _ _)) (((hP9.kept gX4 (RowT.none _ _)).kept g45 (RowT.none _ _)).kept g56 (RowT.none _ _)) (Q5.kept g56 (RowT.none _ _)) k6 B6.size hf1.1 hl2 hf3.1)
          clear hW6 k6 Q4 Q5 r4 r5
          refine hK _ _ ?_
          clear hK K
          try simp only [Act.put, List.setIfInBounds_toArray, List.set_cons_zero, List.set_cons_succ]
          refine wpAny_ready (rs := [20]) (by kernel_rfl) (by simp) ?_
          refine AllReady.cons (o := _) (nth_at rfl) (fun K hK => ?_) AllReady.nil
          go_simp
          with_reducible refine HJ.out.mono ?_
          rintro e w7 ⟨v7, rfl, r7, b7⟩
          have B7 := B6.trans (b7.mono B6.size)
          have R7 := Lib.hid r7
          obtain ⟨e71, e72, rfl, -⟩ := row_form r7.choose_spec.1
          clear r7
          have q7 := hq.below B7 hql
          have q70 : w7.cell? ⟨q, 0, none⟩ = some (.slice ao l.length cap) := (q7.cell 0).trans rfl
          have q7f := q7.frozen 0
          have Q7 := Lib.hid q7
          clear q7
          try dsimp only
          refine hK _ _ ?_
          clear hK K
          try simp only [Act.put, List.setIfInBounds_toArray, List.set_cons_zero, List.set_cons_succ]
          refine wpAny_take (i := 21) (oi := _) (v := ?_) (nth_at rfl) (by kernel_rfl) (by kernel_rfl) (by kernel_rfl) (fun _ _ _ h => h) (Or.inl ⟨by rfl, ?_⟩) ?_
          rotate_left 1
          · intro w; (go_simp <;> with_reducible rfl)
          try simp only [Act.put, List.setIfInBounds_toArray, List.set_cons_zero, List.set_cons_succ]
          refine wpAny_take (i := 22) (oi := _) (v := ?_) (nth_at rfl) (by kernel_rfl) (by kernel_rfl) (by kernel_rfl) (fun _ _ _ h => h) (Or.inl ⟨by rfl, ?_⟩) ?_
          rotate_left 1
          · intro w; (go_simp <;> with_reducible rfl)
          try simp only [Act.put, List.setIfInBounds_toArray, List.set_cons_zero, List.set_cons_succ]
          refine wpAny_take (i := 23) (oi := _) (v := ?_) (nth_at rfl) (by kernel_rfl) (by kernel_rfl) (by kernel_rfl) (fun _ _ _ h => h) (Or.inl ⟨by rfl, ?_⟩) ?_
          rotate_left 1
          · intro w; (go_simp <;> with_reducible rfl)
          try simp only [Act.put, List.setIfInBounds_toArray, List.set_cons_zero, List.set_cons_succ]
          refine wpAny_ready (rs := [24]) (by kernel_rfl) (by simp) ?_
          refine AllReady.cons (o := _) (nth_at rfl) (fun K hK => ?_) AllReady.nil
          go_simp
          refine hK _ _ ?_
          clear hK K
          try simp only [Act.put, List.setIfInBounds_toArray, List.set_cons_zero, List.set_cons_succ]
          refine wpAny_done (by kernel_rfl) ?_ _
          refine NoPanic.normal ?_
          go_wp2_with fail
          go_end0
          refine ⟨rfl, .slice e71 (L1 ++ (L2 ++ L3)).length e72, ?_, ?_, ?_⟩
          · have := Q7.out.set 0 (.slice e71 (L1 ++ (L2 ++ L3)).length e72); simpa using this
          · rw [← HT.out]; exact R7.out.kept (grownBy_setCellB w7 q 0 _) (RowT.blk Q7.out _ (by decide))
          · exact grownBy_t (grown_of_below B7 _) (grownBy_setCellB w7 q 0 _)
        refine AllReady.cons (o := _) (nth_at rfl) (fun K hK => ?_) AllReady.nil
        go_simp
        refine hK _ _ ?_
        clear hK K
        try simp only [Act.put, List.setIfInBounds_toArray, List.set_cons_zero, List.set_cons_succ]
        refine wpAny_take (i := 17) (oi := _) (v := y3) (nth_at rfl) (by kernel_rfl) (by kernel_rfl) (by kernel_rfl) (fun _ _ _ h => h) (Or.inl ⟨by rfl, ?_⟩) ?_
        · intro w; (go_simp <;> (rw [← HY3.out]; simp [sliced, add0_map]))
        try simp only [Act.put, List.setIfInBounds_toArray, List.set_cons_zero, List.set_cons_succ]
        refine wpAny_ready (rs := [9]) (by kernel_rfl) (by simp) ?_
        refine AllReady.cons (o := _) (nth_at rfl) (fun K hK => ?_) AllReady.nil
        go_simp
        with_reducible refine (own_any L1 hf1 y1 _ (hP1.keep (KeepC.of_below hX.drew))).mono ?_
        rintro e w4 ⟨v4, rfl, r4, b4⟩
        have B4 := hX.drew.trans (b4.mono hX.drew.size)
        have Q4 := PartsO.base r4 hX.drew.size
        obtain ⟨e41, e42, rfl, -⟩ := row_form r4.choose_spec.1
        have q40 := (KeepC.of_below B4).2 _ _ _ hq0
        try dsimp only
        refine hK _ _ ?_
        clear hK K
        try simp only [Act.put, List.setIfInBounds_toArray, List.set_cons_zero, List.set_cons_succ]
        refine wpAny_ready (rs := [18]) (by kernel_rfl) (by simp) ?_
        refine AllReady.cons (o := _) (nth_at rfl) (fun K hK => ?_) AllReady.nil
        go_simp
        with_reducible refine (own_any L3 hf3 y3 _ (hP3.keep (KeepC.of_below B4))).mono ?_
        rintro e w5 ⟨v5, rfl, r5, b5⟩
        have B5 := B4.trans (b5.mono B4.size)
        have Q5 := PartsO.base r5 B4.size
        obtain ⟨e51, e52, rfl, -⟩ := row_form r5.choose_spec.1
        have q50 := (KeepC.of_below B5).2 _ _ _ hq0
        try dsimp only
        refine hK _ _ ?_
        clear hK K
        try simp only [Act.put, List.setIfInBounds_toArray, List.set_cons_zero, List.set_cons_succ]
        refine wpAny_ready (rs := [19]) (by kernel_rfl) (by simp) ?_
        refine AllReady.cons (o := _) (nth_at rfl) (fun K hK => ?_) AllReady.nil
        go_simp
        obtain ⟨W6, hW6⟩ : ∃ W6, w5.alloc (.cells #[.slice e41 L1.length e42, .slice none 0 0, .slice e51 L3.length e52] 22) = W6 := ⟨_, rfl⟩
        rw [hW6]
        have b56 : Below w5.heap.size w5 W6 := by rw [← hW6]; exact (Below.refl _ w5).alloc (Nat.le_refl _) _
        have B6 : Below w.heap.size w W6 := B5.trans (b56.mono B5.size)
        have k6 : Blk W6 w5.heap.size #[.slice e41 L1.length e42, .slice none 0 0, .slice e51 L3.length e52] 22 := by rw [← hW6]; exact Blk.new w5 _ _
        have g45 := grown_of_below b5 none
        have g56 := grown_of_below b56 none
        have gX4 := grown_of_below ((Below.refl w1.heap.size w1).drew.trans b4) none
        have HJ := Lib.hid (join3_any w.heap.size L1 L2 L3 _ _ _ w5.heap.size W6 _ ((Q4.kept g45 (RowT.none _ _)).kept g56 (RowT.none _ _)) (((hP9.kept gX4 (RowT.none _ _)).kept g45 (RowT.none _ _)).kept g56 (RowT.none _ _)) (Q5.kept g56 (RowT.none _ _)) k6 B6.size hf1.1 hl2 hf3.1)
        clear hW6 k6 Q4 Q5 r4 r5
        refine hK _ _ ?_
        clear hK K
        try simp only [Act.put, List.setIfInBounds_toArray, List.set_cons_zero, List.set_cons_succ]
        refine wpAny_ready (rs := [20]) (by kernel_rfl) (by simp) ?_
        refine AllReady.cons (o := _) (nth_at rfl) (fun K hK => ?_) AllReady.nil
        go_simp
        with_reducible refine HJ.out.mono ?_
        rintro e w7 ⟨v7, rfl, r7, b7⟩
        have B7 := B6.trans (b7.mono B6.size)
        have R7 := Lib.hid r7
        obtain ⟨e71, e72, rfl, -⟩ := row_form r7.choose_spec.1
        clear r7
        have q7 := hq.below B7 hql
        have q70 : w7.cell? ⟨q, 0, none⟩ = some (.slice ao l.length cap) := (q7.cell 0).trans rfl
        have q7f := q7.frozen 0
        have Q7 := Lib.hid q7
        clear q7
        try dsimp only
        refine hK _ _ ?_
        clear hK K
        try simp only [Act.put, List.setIfInBounds_toArray, List.set_cons_zero, List.set_cons_succ]
        refine wpAny_take (i := 21) (oi := _) (v := ?_) (nth_at rfl) (by kernel_rfl) (by kernel_rfl) (by kernel_rfl) (fun _ _ _ h => h) (Or.inl ⟨by rfl, ?_⟩) ?_
        rotate_left 1
        · intro w; (go_simp <;> with_reducible rfl)
        try simp only [Act.put, List.setIfInBounds_toArray, List.set_cons_zero, List.set_cons_succ]
        refine wpAny_take (i := 22) (oi := _) (v := ?_) (nth_at rfl) (by kernel_rfl) (by kernel_rfl) (by kernel_rfl) (fun _ _ _ h => h) (Or.inl ⟨by rfl, ?_⟩) ?_
        rotate_left 1
        · intro w; (go_simp <;> with_reducible rfl)
        try simp only [Act.put, List.setIfInBounds_toArray, List.set_cons_zero, List.set_cons_succ]
        refine wpAny_take (i := 23) (oi := _) (v := ?_) (nth_at rfl) (by kernel_rfl) (by kernel_rfl) (by kernel_rfl) (fun _ _ _ h => h) (Or.inl ⟨by rfl, ?_⟩) ?_
        rotate_left 1
        · intro w; (go_simp <;> with_reducible rfl)
        try simp only [Act.put, List.setIfInBounds_toArray, List.set_cons_zero, List.set_cons_succ]
        refine wpAny_ready (rs := [24]) (by kernel_rfl) (by simp) ?_
        refine AllReady.cons (o := _) (nth_at rfl) (fun K hK => ?_) AllReady.nil
        go_simp
        refine hK _ _ ?_
        clear hK K
        try simp only [Act.put, List.setIfInBounds_toArray, List.set_cons_zero, List.set_cons_succ]
        refine wpAny_done (by kernel_rfl) ?_ _
        refine NoPanic.normal ?_
        go_wp2_with fail
        go_end0
        refine ⟨rfl, .slice e71 (L1 ++ (L2 ++ L3)).length e72, ?_, ?_, ?_⟩
        · have := Q7.out.set 0 (.slice e71 (L1 ++ (L2 ++ L3)).length e72); simpa using this
        · rw [← HT.out]; exact R7.out.kept (grownBy_setCellB w7 q 0 _) (RowT.blk Q7.out _ (by decide))
        · exact grownBy_t (grown_of_below B7 _) (grownBy_setCellB w7 q 0 _)
      refine AllReady.cons (o := _) (nth_at rfl) (fun K hK => ?_) AllReady.nil
      go_simp
      refine hK _ _ ?_
      clear hK K
      try simp only [Act.put, List.setIfInBounds_toArray, List.set_cons_zero, List.set_cons_succ]
      refine wpAny_take (i := 17) (oi := _) (v := y3) (nth_at rfl) (by kernel_rfl) (by kernel_rfl) (by kernel_rfl) (fun _ _ _ h => h) (Or.inl ⟨by rfl, ?_⟩) ?_
      · intro w; (go_simp <;> (rw [← HY3.out]; simp [sliced, add0_map]))
      try simp only [Act.put, List.setIfInBounds_toArray, List.set_cons_zero, List.set_cons_succ]
      refine wpAny_ready (rs := [5]) (by kernel_rfl) (by simp) ?_
      refine AllReady.cons (o := _) (nth_at rfl) (fun K hK => ?_) AllReady.nil
      go_simp
      refine hK _ _ ?_
      clear hK K
      try simp only [Act.put, List.setIfInBounds_toArray, List.set_cons_zero, List.set_cons_succ]
      refine wpAny_take (i := 8) (oi := _) (v := y1) (nth_at rfl) (by kernel_rfl) (by kernel_rfl) (by kernel_rfl) (fun _ _ _ h => h) (Or.inl ⟨by rfl, ?_⟩) ?_
      · intro w; (go_simp <;> (rw [← HY1.out]; simp [sliced, add0_map]))
      try simp only [Act.put, List.setIfInBounds_toArray, List.set_cons_zero, List.set_cons_succ]
      refine wpAny_ready (rs := [9]) (by kernel_rfl) (by simp) ?_
      refine AllReady.cons (o := _) (nth_at rfl) (fun K hK => ?_) AllReady.nil
      go_simp
      with_reducible refine (own_any L1 hf1 y1 _ (hP1.keep (KeepC.of_below hX.drew))).mono ?_
      rintro e w4 ⟨v4, rfl, r4, b4⟩
      have B4 := hX.drew.trans (b4.mono hX.drew.size)
      have Q4 := PartsO.base r4 hX.drew.size
      obtain ⟨e41, e42, rfl, -⟩ := row_form r4.choose_spec.1
      have q40 := (KeepC.of_below B4).2 _ _ _ hq0
      try dsimp only
      refine hK _ _ ?_
      clear hK K
      try simp only [Act.put, List.setIfInBounds_toArray, List.set_cons_zero, List.set_cons_succ]
      refine wpAny_ready (rs := [18]) (by kernel_rfl) (by simp) ?_
      refine AllReady.cons (o := _) (nth_at rfl) (fun K hK => ?_) AllReady.nil
      go_simp
      with_reducible refine (own_any L3 hf3 y3 _ (hP3.keep (KeepC.of_below B4))).mono ?_
      rintro e w5 ⟨v5, rfl, r5, b5⟩
      have B5 := B4.trans (b5.mono B4.size)
      have Q5 := PartsO.base r5 B4.size
      obtain ⟨e51, e52, rfl, -⟩ := row_form r5.choose_spec.1
      have q50 := (KeepC.of_below B5).2 _ _ _ hq0
      try dsimp only
      refine hK _ _ ?_
      clear hK K
      try simp only [Act.put, List.setIfInBounds_toArray, List.set_cons_zero, List.set_cons_succ]
      refine wpAny_ready (rs := [19]) (by kernel_rfl) (by simp) ?_
      refine AllReady.cons (o := _) (nth_at rfl) (fun K hK => ?_) AllReady.nil
      go_simp
      obtain ⟨W6, hW6⟩ : ∃ W6, w5.alloc (.cells #[.slice e41 L1.length e42, .slice none 0 0, .slice e51 L3.length e52] 22) = W6 := ⟨_, rfl⟩
      rw [hW6]
      have b56 : Below w5.heap.size w5 W6 := by rw [← hW6]; exact (Below.refl _ w5).alloc (Nat.le_refl _) _
      have B6 : Below w.heap.size w W6 := B5.trans (b56.mono B5.size)
      have k6 : Blk W6 w5.heap.size #[.slice e41 L1.length e42, .slice none 0 0, .slice e51 L3.length e52] 22 := by rw [← hW6]; exact Blk.new w5 _ _
      have g45 := grown_of_below b5 none
      have g56 := grown_of_below b56 none
      have gX4 := grown_of_below ((Below.refl w1.heap.size w1).drew.trans b4) none
      have HJ := Lib.hid (join3_any w.heap.size L1 L2 L3 _ _ _ w5.heap.size W6 _ ((Q4.kept g45 (RowT.none _ _)).kept g56 (RowT.none _ _)) (((hP9.kept gX4 (RowT.none _ _)).kept g45 (RowT.none _ _)).kept g56 (RowT.none _ _)) (Q5.kept g56 (RowT.none _ _)) k6 B6.size hf1.1 hl2 hf3.1)
      clear hW6 k6 Q4 Q5 r4 r5
      refine hK _ _ ?_
      clear hK K
      try simp only [Act.put, List.setIfInBounds_toArray, List.set_cons_zero, List.set_cons_succ]
      refine wpAny_ready (rs := [20]) (by kernel_rfl) (by simp) ?_
      refine AllReady.cons (o := _) (nth_at rfl) (fun K hK => ?_) AllReady.nil
      go_simp
      with_reducible refine HJ.out.mono ?_
      rintro e w7 ⟨v7, rfl, r7, b7⟩
      have B7 := B6.trans (b7.mono B6.size)
      have R7 := Lib.hid r7
      obtain ⟨e71, e72, rfl, -⟩ := row_form r7.choose_spec.1
      clear r7
      have q7 := hq.below B7 hql
      have q70 : w7.cell? ⟨q, 0, none⟩ = some (.slice ao l.length cap) := (q7.cell 0).trans rfl
      have q7f := q7.frozen 0
      have Q7 := Lib.hid q7
      clear q7
      try dsimp only
      refine hK _ _ ?_
      clear hK K
      try simp only [Act.put, List.setIfInBounds_toArray, List.set_cons_zero, List.set_cons_succ]
      refine wpAny_take (i := 21) (oi := _) (v := ?_) (nth_at rfl) (by kernel_rfl) (by kernel_rfl) (by kernel_rfl) (fun _ _ _ h => h) (Or.inl ⟨by rfl, ?_⟩) ?_
      rotate_left 1
      · intro w; (go_simp <;> with_reducible rfl)
      try simp only [Act.put, List.setIfInBounds_toArray, List.set_cons_zero, List.set_cons_succ]
      refine wpAny_take (i := 22) (oi := _) (v := ?_) (nth_at rfl) (by kernel_rfl) (by kernel_rfl) (by kernel_rfl) (fun _ _ _ h => h) (Or.inl ⟨by rfl, ?_⟩) ?_
      rotate_left 1
      · intro w; (go_simp <;> with_reducible rfl)
      try simp only [Act.put, List.setIfInBounds_toArray, List.set_cons_zero, List.set_cons_succ]
      refine wpAny_take (i := 23) (oi := _) (v := ?_) (nth_at rfl) (by kernel_rfl) (by kernel_rfl) (by kernel_rfl) (fun _ _ _ h => h) (Or.inl ⟨by rfl, ?_⟩) ?_
      rotate_left 1
      · intro w; (go_simp <;> with_reducible rfl)
      try simp only [Act.put, List.setIfInBounds_toArray, List.set_cons_zero, List.set_cons_succ]
      refine wpAny_ready (rs := [24]) (by kernel_rfl) (by simp) ?_
      refine AllReady.cons (o := _) (nth_at rfl) (fun K hK => ?_) AllReady.nil
      go_simp
      refine hK _ _ ?_
      clear hK K
      try simp only [Act.put, List.setIfInBounds_toArray, List.set_cons_zero, List.set_cons_succ]
      refine wpAny_done (by kernel_rfl) ?_ _
      refine NoPanic.normal ?_
      go_wp2_with fail
      go_end0
      refine ⟨rfl, .slice e71 (L1 ++ (L2 ++ L3)).length e72, ?_, ?_, ?_⟩
      · have := Q7.out.set 0 (.slice e71 (L1 ++ (L2 ++ L3)).length e72); simpa using this
      · rw [← HT.out]; exact R7.out.kept (grownBy_setCellB w7 q 0 _) (RowT.blk Q7.out _ (by decide))
      · exact grownBy_t (grown_of_below B7 _) (grownBy_setCellB w7 q 0 _)
    · have hoz : (0 : Int) < (os.length : Int) := by omega
      have hHL := HL w1.drew (KeepC.of_below hX0.drew)
      have SK1 : Hid (∀ W, Below w1.heap.size w1 W → W.cell? ⟨w.heap.size, 0, none⟩ = some (.int .i64 l2) ∧ W.cell? ⟨w.heap.size, 1, none⟩ = some (.int .u64 S2) ∧ W.cell? ⟨w.heap.size, 2, none⟩ = some (.int .i64 i2)) := by
        show ∀ W, _
        intro W h
        exact SK.out W (hbb.trans (h.mono hbb.size))
      clear HL
      go_wp2_with fail
      go_region_held3 (fun u => u.cell? ⟨w.heap.size, 0, none⟩ = some (.int .i64 l2) ∧ u.cell? ⟨w.heap.size, 1, none⟩ = some (.int .u64 S2) ∧ u.cell? ⟨w.heap.size, 2, none⟩ = some (.int .i64 i2))
        (first | go_keep | exact kk2 | exact SK1.out _ ((Below.refl w1.heap.size w1).drew) | exact SK1.out _ (hbb2.alloc hbb2.size _))
        (first
          | (go_at_call 28; go_must (with_reducible refine hHL.mono ?_); rintro e w2 ⟨v2, rfl, ho2, hb2⟩; have hbb2 := (Below.refl w1.heap.size w1).drew.trans hb2; have kk2 := SK1.out _ hbb2; obtain ⟨a22, c22, hv22, -⟩ := ho2.view.at; subst hv22))
      have hmid : midL ⟨l2, S2, i2⟩ os = [⟨l2, S2, i2, os⟩] := by
        have : os.isEmpty = false := by cases os with | nil => exact absurd rfl hos | cons x r => rfl
        unfold midL; rw [this]; rfl
      rw [hmid] at HT
      have hX2 := hX0.trans (hbb2.mono hX0.size)
      have hP9 : PartsO w.heap.size 46 40 9 (w2.alloc (.cells #[.int .i64 l2, .int .u64 S2, .int .i64 i2, .slice a22 os.length c22] 46)) (.slice (some ⟨w2.heap.size, 0, none⟩) 1 1) [⟨l2, S2, i2, os⟩] :=
        ⟨_, World.ownsRow_lit w2 #[.int .i64 l2, .int .u64 S2, .int .i64 i2, .slice a22 os.length c22] 1 hX2.size (by decide) rfl,
          Rows.one ⟨_, rfl, (ObjsO.base ho2 hX0.size).kept (World.grownBy_alloc w2 _ none) (RowT.none _ _)⟩⟩
      have hX := hX2.alloc hX2.size (.cells #[.int .i64 l2, .int .u64 S2, .int .i64 i2, .slice a22 os.length c22] 46)
      have hl2 : ([⟨l2, S2, i2, os⟩] : List PartD).length ≤ 1000000 := by simp
      generalize ([⟨l2, S2, i2, os⟩] : List PartD) = L2 at hP9 HT hl2
      generalize w2.alloc (.cells #[.int .i64 l2, .int .u64 S2, .int .i64 i2, .slice a22 os.length c22] 46) = W3 at *
      have q10 := (KeepC.of_below hX).2 _ _ _ hq0
      clear hHL SK1 kk2 hmid ho2 hb2
      go_wp2_with fail
      refine wp_region_noPanic ?_
      refine wp_region_any (by kernel_rfl) ?_
      change wpAny _ _ _ _ _ _ _ (World.drew _)
      refine wpAny_take (i := 0) (oi := _) (v := ?_) (nth_at rfl) (by kernel_rfl) (by kernel_rfl) (by kernel_rfl) (fun _ _ _ h => h) (Or.inl ⟨by rfl, ?_⟩) ?_
      rotate_left 1
      · intro w; (go_simp <;> with_reducible rfl)
      try simp only [Act.put, List.setIfInBounds_toArray, List.set_cons_zero, List.set_cons_succ]
      refine wpAny_take (i := 1) (oi := _) (v := ?_) (nth_at rfl) (by kernel_rfl) (by kernel_rfl) (by kernel_rfl) (fun _ _ _ h => h) (Or.inl ⟨by rfl, ?_⟩) ?_
      rotate_left 1
      · intro w; (go_simp <;> with_reducible rfl)
      try simp only [Act.put, List.setIfInBounds_toArray, List.set_cons_zero, List.set_cons_succ]
      refine wpAny_take (i := 2) (oi := _) (v := ?_) (nth_at rfl) (by kernel_rfl) (by kernel_rfl) (by kernel_rfl) (fun _ _ _ h => h) (Or.inl ⟨by rfl, ?_⟩) ?_
      rotate_left 1
      · intro w; (go_simp <;> with_reducible rfl)
      try simp only [Act.put, List.setIfInBounds_toArray, List.set_cons_zero, List.set_cons_succ]
      refine wpAny_take (i := 3) (oi := _) (v := ?_) (nth_at rfl) (by kernel_rfl) (by kernel_rfl) (by kernel_rfl) (fun _ _ _ h => h) (Or.inl ⟨by rfl, ?_⟩) ?_
      rotate_left 1
      · intro w; (go_simp <;> with_reducible rfl)
      try simp only [Act.put, List.setIfInBounds_toArray, List.set_cons_zero, List.set_cons_succ]
      refine wpAny_take (i := 4) (oi := _) (v := ?_) (nth_at rfl) (by kernel_rfl) (by kernel_rfl) (by kernel_rfl) (fun _ _ _ h => h) (Or.inl ⟨by rfl, ?_⟩) ?_
      rotate_left 1
      · intro w; (go_simp <;> with_reducible rfl)
      try simp only [Act.put, List.setIfInBounds_toArray, List.set_cons_zero, List.set_cons_succ]
      refine wpAny_take (i := 6) (oi := _) (v := ?_) (nth_at rfl) (by kernel_rfl) (by kernel_rfl) (by kernel_rfl) (fun _ _ _ h => h) (Or.inl ⟨by rfl, ?_⟩) ?_
      rotate_left 1
      · intro w; (go_simp <;> with_reducible rfl)
      try simp only [Act.put, List.setIfInBounds_toArray, List.set_cons_zero, List.set_cons_succ]
      refine wpAny_take (i := 7) (oi := _) (v := ?_) (nth_at rfl) (by kernel_rfl) (by kernel_rfl) (by kernel_rfl) (fun _ _ _ h => h) (Or.inl ⟨by rfl, ?_⟩) ?_
      rotate_left 1
      · intro w; (go_simp <;> with_reducible rfl)
      try simp only [Act.put, List.setIfInBounds_toArray, List.set_cons_zero, List.set_cons_succ]
      refine wpAny_take (i := 10) (oi := _) (v := ?_) (nth_at rfl) (by kernel_rfl) (by kernel_rfl) (by kernel_rfl) (fun _ _ _ h => h) (Or.inl ⟨by rfl, ?_⟩) ?_
      rotate_left 1
      · intro w; (go_simp <;> with_reducible rfl)
      try simp only [Act.put, List.setIfInBounds_toArray, List.set_cons_zero, List.set_cons_succ]
      refine wpAny_take (i := 11) (oi := _) (v := ?_) (nth_at rfl) (by kernel_rfl) (by kernel_rfl) (by kernel_rfl) (fun _ _ _ h => h) (Or.inl ⟨by rfl, ?_⟩) ?_
      rotate_left 1
      · intro w; (go_simp <;> with_reducible rfl)
      try simp only [Act.put, List.setIfInBounds_toArray, List.set_cons_zero, List.set_cons_succ]
      refine wpAny_take (i := 12) (oi := _) (v := ?_) (nth_at rfl) (by kernel_rfl) (by kernel_rfl) (by kernel_rfl) (fun _ _ _ h => h) (Or.inl ⟨by rfl, ?_⟩) ?_
      rotate_left 1
      · intro w; (go_simp <;> with_reducible rfl)
      try simp only [Act.put, List.setIfInBounds_toArray, List.set_cons_zero, List.set_cons_succ]
      refine wpAny_take (i := 13) (oi := _) (v := ?_) (nth_at rfl) (by kernel_rfl) (by kernel_rfl) (by kernel_rfl) (fun _ _ _ h => h) (Or.inl ⟨by rfl, ?_⟩) ?_
      rotate_left 1
      · intro w; (go_simp <;> with_reducible rfl)
      try simp only [Act.put, List.setIfInBounds_toArray, List.set_cons_zero, List.set_cons_succ]
      refine wpAny_take (i := 14) (oi := _) (v := ?_) (nth_at rfl) (by kernel_rfl) (by kernel_rfl) (by kernel_rfl) (fun _ _ _ h => h) (Or.inl ⟨by rfl, ?_⟩) ?_
      rotate_left 1
      · intro w; (go_simp <;> with_reducible rfl)
      try simp only [Act.put, List.setIfInBounds_toArray, List.set_cons_zero, List.set_cons_succ]
      refine wpAny_take (i := 16) (oi := _) (v := ?_) (nth_at rfl) (by kernel_rfl) (by kernel_rfl) (by kernel_rfl) (fun _ _ _ h => h) (Or.inl ⟨by rfl, ?_⟩) ?_
      rotate_left 1
      · intro w; (go_simp <;> with_reducible rfl)
      try simp only [Act.put, List.setIfInBounds_toArray, List.set_cons_zero, List.set_cons_succ]
      refine wpAny_ready (rs := [5, 15]) (by kernel_rfl) (by simp) ?_
      refine AllReady.cons (o := _) (nth_at rfl) (fun K hK => ?_) ?_
      · go_simp
        refine hK _ _ ?_
        clear hK K
        try simp only [Act.put, List.setIfInBounds_toArray, List.set_cons_zero, List.set_cons_succ]
        refine wpAny_take (i := 8) (oi := _) (v := y1) (nth_at rfl) (by kernel_rfl) (by kernel_rfl) (by kernel_rfl) (fun _ _ _ h => h) (Or.inl ⟨by rfl, ?_⟩) ?_
        · intro w; (go_simp <;> (rw [← HY1.out]; simp [sliced, add0_map]))
        try simp only [Act.put, List.setIfInBounds_toArray, List.set_cons_zero, List.set_cons_succ]
        refine wpAny_ready (rs := [9, 15]) (by kernel_rfl) (by simp) ?_
        refine AllReady.cons (o := _) (nth_at rfl) (fun K hK => ?_) ?_
        · go_simp
          with_reducible refine (own_any L1 hf1 y1 _ (hP1.keep (KeepC.of_below hX.drew))).mono ?_
          rintro e w4 ⟨v4, rfl, r4, b4⟩
          have B4 := hX.drew.trans (b4.mono hX.drew.size)
          have Q4 := PartsO.base r4 hX.drew.size
          obtain ⟨e41, e42, rfl, -⟩ := row_form r4.choose_spec.1
          have q40 := (KeepC.of_below B4).2 _ _ _ hq0
          try dsimp only
          refine hK _ _ ?_
          clear hK K
          try simp only [Act.put, List.setIfInBounds_toArray, List.set_cons_zero, List.set_cons_succ]
          refine wpAny_ready (rs := [15]) (by kernel_rfl) (by simp) ?_
          refine AllReady.cons (o := _) (nth_at rfl) (fun K hK => ?_) AllReady.nil
          go_simp
          refine hK _ _ ?_
          clear hK K
          try simp only [Act.put, List.setIfInBounds_toArray, List.set_cons_zero, List.set_cons_succ]
          refine wpAny_take (i := 17) (oi := _) (v := y3) (nth_at rfl) (by kernel_rfl) (by kernel_rfl) (by kernel_rfl) (fun _ _ _ h => h) (Or.inl ⟨by rfl, ?_⟩) ?_
          · intro w; (go_simp <;> (rw [← HY3.out]; simp [sliced, add0_map]))
          try simp only [Act.put, List.setIfInBounds_toArray, List.set_cons_zero, List.set_cons_succ]
          refine wpAny_ready (rs := [18]) (by kernel_rfl) (by simp) ?_
          refine AllReady.cons (o := _) (nth_at rfl) (fun K hK => ?_) AllReady.nil
          go_simp
          with_reducible refine (own_any L3 hf3 y3 _ (hP3.keep (KeepC.of_below B4))).mono ?_
          rintro e w5 ⟨v5, rfl, r5, b5⟩
          have B5 := B4.trans (b5.mono B4.size)
          have Q5 := PartsO.base r5 B4.size
          obtain ⟨e51, e52, rfl, -⟩ := row_form r5.choose_spec.1
          have q50 := (KeepC.of_below B5).2 _ _ _ hq0
          try dsimp only
          refine hK _ _ ?_
          clear hK K
          try simp only [Act.put, List.setIfInBounds_toArray, List.set_cons_zero, List.set_cons_succ]
          refine wpAny_ready (rs := [19]) (by kernel_rfl) (by simp) ?_
          refine AllReady.cons (o := _) (nth_at rfl) (fun K hK => ?_) AllReady.nil
          go_simp
          obtain ⟨W6, hW6⟩ : ∃ W6, w5.alloc (.cells #[.slice e41 L1.length e42, .slice (some ⟨w2.heap.size, 0, none⟩) 1 1, .slice e51 L3.length e52] 22) = W6 := ⟨_, rfl⟩
          rw [hW6]
          have b56 : Below w5.heap.size w5 W6 := by rw [← hW6]; exact (Below.refl _ w5).alloc (Nat.le_refl _) _
          have B6 : Below w.heap.size w W6 := B5.trans (b56.mono B5.size)
          have k6 : Blk W6 w5.heap.size #[.slice e41 L1.length e42, .slice (some ⟨w2.heap.size, 0, none⟩) 1 1, .slice e51 L3.length e52] 22 := by rw [← hW6]; exact Blk.new w5 _ _
          have g45 := grown_of_below b5 none
          have g56 := grown_of_below b56 none
          have gX4 := grown_of_below ((Below.refl W3.heap.size W3).drew.trans b4) none
          have HJ := Lib.hid (join3_any w.heap.size L1 L2 L3 _ _ _ w5.heap.size W6 _ ((Q4.kept g45 (RowT.none _ _)).kept g56 (RowT.none _ _)) (((hP9.kept gX4 (RowT.none _ _)).kept g45 (RowT.none _ _)).kept g56 (RowT.none _ _)) (Q5.kept g56 (RowT.none _ _)) k6 B6.size hf1.1 hl2 hf3.1)
          clear hW6 k6 Q4 Q5 r4 r5
          refine hK _ _ ?_
          clear hK K
          try simp only [Act.put, List.setIfInBounds_toArray, List.set_cons_zero, List.set_cons_succ]
          refine wpAny_ready (rs := [20]) (by kernel_rfl) (by simp) ?_
          refine AllReady.cons (o := _) (nth_at rfl) (fun K hK => ?_) AllReady.nil
          go_simp
          with_reducible refine HJ.out.mono ?_
          rintro e w7 ⟨v7, rfl, r7, b7⟩
          have B7 := B6.trans (b7.mono B6.size)
          have R7 := Lib.hid r7
          obtain ⟨e71, e72, rfl, -⟩ := row_form r7.choose_spec.1
          clear r7
          have q7 := hq.below B7 hql
          have q70 : w7.cell? ⟨q, 0, none⟩ = some (.slice ao l.length cap) := (q7.cell 0).trans rfl
          have q7f := q7.frozen 0
          have Q7 := Lib.hid q7
          clear q7
          try dsimp only
          refine hK _ _ ?_
          clear hK K
          try simp only [Act.put, List.setIfInBounds_toArray, List.set_cons_zero, List.set_cons_succ]
          refine wpAny_take (i := 21) (oi := _) (v := ?_) (nth_at rfl) (by kernel_rfl) (by kernel_rfl) (by kernel_rfl) (fun _ _ _ h => h) (Or.inl ⟨by rfl, ?_⟩) ?_
          rotate_left 1
          · intro w; (go_simp <;> with_reducible rfl)
          try simp only [Act.put, List.setIfInBounds_toArray, List.set_cons_zero, List.set_cons_succ]
          refine wpAny_take (i := 22) (oi := _) (v := ?_) (nth_at rfl) (by kernel_rfl) (by kernel_rfl) (by kernel_rfl) (fun _ _ _ h => h) (Or.inl ⟨by rfl, ?_⟩) ?_
          rotate_left 1
          · intro w; (go_simp <;> with_reducible rfl)
          try simp only [Act.put, List.setIfInBounds_toArray, List.set_cons_zero, List.set_cons_succ]
          refine wpAny_take (i := 23) (oi := _) (v := ?_) (nth_at rfl) (by kernel_rfl) (by kernel_rfl) (by kernel_rfl) (fun _ _ _ h => h) (Or.inl ⟨by rfl, ?_⟩) ?_
          rotate_left 1
          · intro w; (go_simp <;> with_reducible rfl)
          try simp only [Act.put, List.setIfInBounds_toArray, List.set_cons_zero, List.set_cons_succ]
          refine wpAny_ready (rs := [24]) (by kernel_rfl) (by simp) ?_
          refine AllReady.cons (o := _) (nth_at rfl) (fun K hK => ?_) AllReady.nil
          go_simp
          refine hK _ _ ?_
          clear hK K
          try simp only [Act.put, List.setIfInBounds_toArray, List.set_cons_zero, List.set_cons_succ]
          refine wpAny_done (by kernel_rfl) ?_ _
          refine NoPanic.normal ?_
          go_wp2_with fail
          go_end0
          refine ⟨rfl, .slice e71 (L1 ++ (L2 ++ L3)).length e72, ?_, ?_, ?_⟩
          · have := Q7.out.set 0 (.slice e71 (L1 ++ (L2 ++ L3)).length e72); simpa using this
          · rw [← HT.out]; exact R7.out.kept (grownBy_setCellB w7 q 0 _) (RowT.blk Q7.out _ (by decide))
          · exact grownBy_t (grown_of_below B7 _) (grownBy_setCellB w7 q 0 _)
        refine AllReady.cons (o := _) (nth_at rfl) (fun K hK => ?_) AllReady.nil
        go_simp
        refine hK _ _ ?_
        clear hK K
        try simp only [Act.put, List.setIfInBounds_toArray, List.set_cons_zero, List.set_cons_succ]
        refine wpAny_take (i := 17) (oi := _) (v := y3) (nth_at rfl) (by kernel_rfl) (by kernel_rfl) (by kernel_rfl) (fun _ _ _ h => h) (Or.inl ⟨by rfl, ?_⟩) ?_
        · intro w; (go_simp <;> (rw [← HY3.out]; simp [sliced, add0_map]))
        try simp only [Act.put, List.setIfInBounds_toArray, List.set_cons_zero, List.set_cons_succ]
        refine wpAny_ready (rs := [9]) (by kernel_rfl) (by simp) ?_
        refine AllReady.cons (o := _) (nth_at rfl) (fun K hK => ?_) AllReady.nil
        go_simp
        with_reducible refine (own_any L1 hf1 y1 _ (hP1.keep (KeepC.of_below hX.drew))).mono ?_
        rintro e w4 ⟨v4, rfl, r4, b4⟩
        have B4 := hX.drew.trans (b4.mono hX.drew.size)
        have Q4 := PartsO.base r4 hX.drew.size
        obtain ⟨e41, e42, rfl, -⟩ := row_form r4.choose_spec.1
        have q40 := (KeepC.of_below B4).2 _ _ _ hq0
        try dsimp only
        refine hK _ _ ?_
        clear hK K
        try simp only [Act.put, List.setIfInBounds_toArray, List.set_cons_zero, List.set_cons_succ]
        refine wpAny_ready (rs := [18]) (by kernel_rfl) (by simp) ?_
        refine AllReady.cons (o := _) (nth_at rfl) (fun K hK => ?_) AllReady.nil
        go_simp
        with_reducible refine (own_any L3 hf3 y3 _ (hP3.keep (KeepC.of_below B4))).mono ?_
        rintro e w5 ⟨v5, rfl, r5, b5⟩
        have B5 := B4.trans (b5.mono B4.size)
        have Q5 := PartsO.base r5 B4.size
        obtain ⟨e51, e52, rfl, -⟩ := row_form r5.choose_spec.1
        have q50 := (KeepC.of_below B5).2 _ _ _ hq0
        try dsimp only
        refine hK _ _ ?_
        clear hK K
        try simp only [Act.put, List.setIfInBounds_toArray, List.set_cons_zero, List.set_cons_succ]
        refine wpAny_ready (rs := [19]) (by kernel_rfl) (by simp) ?_
        refine AllReady.cons (o := _) (nth_at rfl) (fun K hK => ?_) AllReady.nil
        go_simp
        obtain ⟨W6, hW6⟩ : ∃ W6, w5.alloc (.cells #[.slice e41 L1.length e42, .slice (some ⟨w2.heap.size, 0, none⟩) 1 1, .slice e51 L3.length e52] 22) = W6 := ⟨_, rfl⟩
        rw [hW6]
        have b56 : Below w5.heap.size w5 W6 := by rw [← hW6]; exact (Below.refl _ w5).alloc (Nat.le_refl _) _
        have B6 : Below w.heap.size w W6 := B5.trans (b56.mono B5.size)
        have k6 : Blk W6 w5.heap.size #[.slice e41 L1.length e42, .slice (some ⟨w2.heap.size, 0, none⟩) 1 1, .slice e51 L3.length e52] 22 := by rw [← hW6]; exact Blk.new w5 _ _
        have g45 := grown_of_below b5 none
        have g56 := grown_of_below b56 none
        have gX4 := grown_of_below ((Below.refl W3.heap.size W3).drew.trans b4) none
        have HJ := Lib.hid (join3_any w.heap.size L1 L2 L3 _ _ _ w5.heap.size W6 _ ((Q4.kept g45 (RowT.none _ _)).kept g56 (RowT.none _ _)) (((hP9.kept gX4 (RowT.none _ _)).kept g45 (RowT.none _ _)).kept g56 (RowT.none _ _)) (Q5.kept g56 (RowT.none _ _)) k6 B6.size hf1.1 hl2 hf3.1)
        clear hW6 k6 Q4 Q5 r4 r5
        refine hK _ _ ?_
        clear hK K
        try simp only [Act.put, List.setIfInBounds_toArray, List.set_cons_zero, List.set_cons_succ]
        refine wpAny_ready (rs := [20]) (by kernel_rfl) (by simp) ?_
        refine AllReady.cons (o := _) (nth_at rfl) (fun K hK => ?_) AllReady.nil
        go_simp
        with_reducible refine HJ.out.mono ?_
        rintro e w7 ⟨v7, rfl, r7, b7⟩
        have B7 := B6.trans (b7.mono B6.size)
        have R7 := Lib.hid r7
        obtain ⟨e71, e72, rfl, -⟩ := row_form r7.choose_spec.1
        clear r7
        have q7 := hq.below B7 hql
        have q70 : w7.cell? ⟨q, 0, none⟩ = some (.slice ao l.length cap) := (q7.cell 0).trans rfl
        have q7f := q7.frozen 0
        have Q7 := Lib.hid q7
        clear q7
        try dsimp only
        refine hK _ _ ?_
        clear hK K
        try simp only [Act.put, List.setIfInBounds_toArray, List.set_cons_zero, List.set_cons_succ]
        refine wpAny_take (i := 21) (oi := _) (v := ?_) (nth_at rfl) (by kernel_rfl) (by kernel_rfl) (by kernel_rfl) (fun _ _ _ h => h) (Or.inl ⟨by rfl, ?_⟩) ?_
        rotate_left 1
        · intro w; (go_simp <;> with_reducible rfl)
        try simp only [Act.put, List.setIfInBounds_toArray, List.set_cons_zero, List.set_cons_succ]
        refine wpAny_take (i := 22) (oi := _) (v := ?_) (nth_at rfl) (by kernel_rfl) (by kernel_rfl) (by kernel_rfl) (fun _ _ _ h => h) (Or.inl ⟨by rfl, ?_⟩) ?_
        rotate_left 1
        · intro w; (go_simp <;> with_reducible rfl)
        try simp only [Act.put, List.setIfInBounds_toArray, List.set_cons_zero, List.set_cons_succ]
        refine wpAny_take (i := 23) (oi := _) (v := ?_) (nth_at rfl) (by kernel_rfl) (by kernel_rfl) (by kernel_rfl) (fun _ _ _ h => h) (Or.inl ⟨by rfl, ?_⟩) ?_
        rotate_left 1
        · intro w; (go_simp <;> with_reducible rfl)
        try simp only [Act.put, List.setIfInBounds_toArray, List.set_cons_zero, List.set_cons_succ]
        refine wpAny_ready (rs := [24]) (by kernel_rfl) (by simp) ?_
        refine AllReady.cons (o := _) (nth_at rfl) (fun K hK => ?_) AllReady.nil
        go_simp
        refine hK _ _ ?_
        clear hK K
        try simp only [Act.put, List.setIfInBounds_toArray, List.set_cons_zero, List.set_cons_succ]
        refine wpAny_done (by kernel_rfl) ?_ _
        refine NoPanic.normal ?_
        go_wp2_with fail
        go_end0
        refine ⟨rfl, .slice e71 (L1 ++ (L2 ++ L3)).length e72, ?_, ?_, ?_⟩
        · have := Q7.out.set 0 (.slice e71 (L1 ++ (L2 ++ L3)).length e72); simpa using this
        · rw [← HT.out]; exact R7.out.kept (grownBy_setCellB w7 q 0 _) (RowT.blk Q7.out _ (by decide))
        · exact grownBy_t (grown_of_below B7 _) (grownBy_setCellB w7 q 0 _)
      refine AllReady.cons (o := _) (nth_at rfl) (fun K hK => ?_) AllReady.nil
      go_simp
      refine hK _ _ ?_
      clear hK K
      try simp only [Act.put, List.setIfInBounds_toArray, List.set_cons_zero, List.set_cons_succ]
      refine wpAny_take (i := 17) (oi := _) (v := y3) (nth_at rfl) (by kernel_rfl) (by kernel_rfl) (by kernel_rfl) (fun _ _ _ h => h) (Or.inl ⟨by rfl, ?_⟩) ?_
      · intro w; (go_simp <;> (rw [← HY3.out]; simp [sliced, add0_map]))
      try simp only [Act.put, List.setIfInBounds_toArray, List.set_cons_zero, List.set_cons_succ]
      refine wpAny_ready (rs := [5]) (by kernel_rfl) (by simp) ?_
      refine AllReady.cons (o := _) (nth_at rfl) (fun K hK => ?_) AllReady.nil
      go_simp
      refine hK _ _ ?_
      clear hK K
      try simp only [Act.put, List.setIfInBounds_toArray, List.set_cons_zero, List.set_cons_succ]
      refine wpAny_take (i := 8) (oi := _) (v := y1) (nth_at rfl) (by kernel_rfl) (by kernel_rfl) (by kernel_rfl) (fun _ _ _ h => h) (Or.inl ⟨by rfl, ?_⟩) ?_
      · intro w; (go_simp <;> (rw [← HY1.out]; simp [sliced, add0_map]))
      try simp only [Act.put, List.setIfInBounds_toArray, List.set_cons_zero, List.set_cons_succ]
      refine wpAny_ready (rs := [9]) (by kernel_rfl) (by simp) ?_
      refine AllReady.cons (o := _) (nth_at rfl) (fun K hK => ?_) AllReady.nil
      go_simp
      with_reducible refine (own_any L1 hf1 y1 _ (hP1.keep (KeepC.of_below hX.drew))).mono ?_
      rintro e w4 ⟨v4, rfl, r4, b4⟩
      have B4 := hX.drew.trans (b4.mono hX.drew.size)
      have Q4 := PartsO.base r4 hX.drew.size
      obtain ⟨e41, e42, rfl, -⟩ := row_form r4.choose_spec.1
      have q40 := (KeepC.of_below B4).2 _ _ _ hq0
      try dsimp only
      refine hK _ _ ?_
      clear hK K
      try simp only [Act.put, List.setIfInBounds_toArray, List.set_cons_zero, List.set_cons_succ]
      refine wpAny_ready (rs := [18]) (by kernel_rfl) (by simp) ?_
      refine AllReady.cons (o := _) (nth_at rfl) (fun K hK => ?_) AllReady.nil
      go_simp
      with_reducible refine (own_any L3 hf3 y3 _ (hP3.keep (KeepC.of_below B4))).mono ?_
      rintro e w5 ⟨v5, rfl, r5, b5⟩
      have B5 := B4.trans (b5.mono B4.size)
      have Q5 := PartsO.base r5 B4.size
      obtain ⟨e51, e52, rfl, -⟩ := row_form r5.choose_spec.1
      have q50 := (KeepC.of_below B5).2 _ _ _ hq0
      try dsimp only
      refine hK _ _ ?_
      clear hK K
      try simp only [Act.put, List.setIfInBounds_toArray, List.set_cons_zero, List.set_cons_succ]
      refine wpAny_ready (rs := [19]) (by kernel_rfl) (by simp) ?_
      refine AllReady.cons (o := _) (nth_at rfl) (fun K hK => ?_) AllReady.nil
      go_simp
      obtain ⟨W6, hW6⟩ : ∃ W6, w5.alloc (.cells #[.slice e41 L1.length e42, .slice (some ⟨w2.heap.size, 0, none⟩) 1 1, .slice e51 L3.length e52] 22) = W6 := ⟨_, rfl⟩
      rw [hW6]
      have b56 : Below w5.heap.size w5 W6 := by rw [← hW6]; exact (Below.refl _ w5).alloc (Nat.le_refl _) _
      have B6 : Below w.heap.size w W6 := B5.trans (b56.mono B5.size)
      have k6 : Blk W6 w5.heap.size #[.slice e41 L1.length e42, .slice (some ⟨w2.heap.size, 0, none⟩) 1 1, .slice e51 L3.length e52] 22 := by rw [← hW6]; exact Blk.new w5 _ _
      have g45 := grown_of_below b5 none
      have g56 := grown_of_below b56 none
      have gX4 := grown_of_below ((Below.refl W3.heap.size W3).drew.trans b4) none
      have HJ := Lib.hid (join3_any w.heap.size L1 L2 L3 _ _ _ w5.heap.size W6 _ ((Q4.kept g45 (RowT.none _ _)).kept g56 (RowT.none _ _)) (((hP9.kept gX4 (RowT.none _ _)).kept g45 (RowT.none _ _)).kept g56 (RowT.none _ _)) (Q5.kept g56 (RowT.none _ _)) k6 B6.size hf1.1 hl2 hf3.1)
      clear hW6 k6 Q4 Q5 r4 r5
      refine hK _ _ ?_
      clear hK K
      try simp only [Act.put, List.setIfInBounds_toArray, List.set_cons_zero, List.set_cons_succ]
      refine wpAny_ready (rs := [20]) (by kernel_rfl) (by simp) ?_
      refine AllReady.cons (o := _) (nth_at rfl) (fun K hK => ?_) AllReady.nil
      go_simp
      with_reducible refine HJ.out.mono ?_
      rintro e w7 ⟨v7, rfl, r7, b7⟩
      have B7 := B6.trans (b7.mono B6.size)
      have R7 := Lib.hid r7
      obtain ⟨e71, e72, rfl, -⟩ := row_form r7.choose_spec.1
      clear r7
      have q7 := hq.below B7 hql
      have q70 : w7.cell? ⟨q, 0, none⟩ = some (.slice ao l.length cap) := (q7.cell 0).trans rfl
      have q7f := q7.frozen 0
      have Q7 := Lib.hid q7
      clear q7
      try dsimp only
      refine hK _ _ ?_
      clear hK K
      try simp only [Act.put, List.setIfInBounds_toArray, List.set_cons_zero, List.set_cons_succ]
      refine wpAny_take (i := 21) (oi := _) (v := ?_) (nth_at rfl) (by kernel_rfl) (by kernel_rfl) (by kernel_rfl) (fun _ _ _ h => h) (Or.inl ⟨by rfl, ?_⟩) ?_
      rotate_left 1
      · intro w; (go_simp <;> with_reducible rfl)
      try simp only [Act.put, List.setIfInBounds_toArray, List.set_cons_zero, List.set_cons_succ]
      refine wpAny_take (i := 22) (oi := _) (v := ?_) (nth_at rfl) (by kernel_rfl) (by kernel_rfl) (by kernel_rfl) (fun _ _ _ h => h) (Or.inl ⟨by rfl, ?_⟩) ?_
      rotate_left 1
      · intro w; (go_simp <;> with_reducible rfl)
      try simp only [Act.put, List.setIfInBounds_toArray, List.set_cons_zero, List.set_cons_succ]
      refine wpAny_take (i := 23) (oi := _) (v := ?_) (nth_at rfl) (by kernel_rfl) (by kernel_rfl) (by kernel_rfl) (fun _ _ _ h => h) (Or.inl ⟨by rfl, ?_⟩) ?_
      rotate_left 1
      · intro w; (go_simp <;> with_reducible rfl)
      try simp only [Act.put, List.setIfInBounds_toArray, List.set_cons_zero, List.set_cons_succ]
      refine wpAny_ready (rs := [24]) (by kernel_rfl) (by simp) ?_
      refine AllReady.cons (o := _) (nth_at rfl) (fun K hK => ?_) AllReady.nil
      go_simp
      refine hK _ _ ?_
      clear hK K
      try simp only [Act.put, List.setIfInBounds_toArray, List.set_cons_zero, List.set_cons_succ]
      refine wpAny_done (by kernel_rfl) ?_ _
      refine NoPanic.normal ?_
      go_wp2_with fail
      go_end0
      refine ⟨rfl, .slice e71 (L1 ++ (L2 ++ L3)).length e72, ?_, ?_, ?_⟩
      · have := Q7.out.set 0 (.slice e71 (L1 ++ (L2 ++ L3)).length e72); simpa using this
      · rw [← HT.out]; exact R7.out.kept (grownBy_setCellB w7 q 0 _) (RowT.blk Q7.out _ (by decide))
      · exact grownBy_t (grown_of_below B7 _) (grownBy_setCellB w7 q 0 _)
  · have hRl := HRl.out
    have hRz := HRz.out
    simp only [if_true] at hRl hRz
    have hw1 : IntKind.i64.wrap ((N : Int) + 1) = (N : Int) + 1 := IntWalk.i64_in _ (by omega)
    have hw2 : ((N : Int) + 1) ≤ (l.length : Int) := by omega
    have hw3 : (0 : Int) ≤ (N : Int) + 1 := by omega
    have hw4 : ((N : Int) + 1).toNat = N + 1 := by omega
    by_cases hos : os.length = 0
    · obtain rfl := List.length_eq_zero_iff.1 hos
      have hmid : midL ⟨l2, S2, i2⟩ [] = [] := rfl
      rw [hmid] at HT
      have hP9 : PartsO w.heap.size 46 40 9 w1 (.slice none 0 0) [] := PartsO.nil _ _ _ _ _
      generalize hL2 : ([] : List PartD) = L2 at hP9 HT
      have hl2 : L2.length ≤ 1000000 := by rw [← hL2]; decide
      go_wp2_with fail
      have hX := hX0
      have q10 := (KeepC.of_below hX).2 _ _ _ hq0
      clear HL hL2
      refine wp_region_noPanic ?_
      refine wp_region_any (by kernel_rfl) ?_
      change wpAny _ _ _ _ _ _ _ (World.drew _)
      refine wpAny_take (i := 0) (oi := _) (v := ?_) (nth_at rfl) (by kernel_rfl) (by kernel_rfl) (by kernel_rfl) (fun _ _ _ h => h) (Or.inl ⟨by rfl, ?_⟩) ?_
      rotate_left 1
      · intro w; (go_simp <;> with_reducible rfl)
      try simp only [Act.put, List.setIfInBounds_toArray, List.set_cons_zero, List.set_cons_succ]
      refine wpAny_take (i := 1) (oi := _) (v := ?_) (nth_at rfl) (by kernel_rfl) (by kernel_rfl) (by kernel_rfl) (fun _ _ _ h => h) (Or.inl ⟨by rfl, ?_⟩) ?_
      rotate_left 1
      · intro w; (go_simp <;> with_reducible rfl)
      try simp only [Act.put, List.setIfInBounds_toArray, List.set_cons_zero, List.set_cons_succ]
      refine wpAny_take (i := 2) (oi := _) (v := ?_) (nth_at rfl) (by kernel_rfl) (by kernel_rfl) (by kernel_rfl) (fun _ _ _ h => h) (Or.inl ⟨by rfl, ?_⟩) ?_
      rotate_left 1
      · intro w; (go_simp <;> with_reducible rfl)
      try simp only [Act.put, List.setIfInBounds_toArray, List.set_cons_zero, List.set_cons_succ]
      refine wpAny_take (i := 3) (oi := _) (v := ?_) (nth_at rfl) (by kernel_rfl) (by kernel_rfl) (by kernel_rfl) (fun _ _ _ h => h) (Or.inl ⟨by rfl, ?_⟩) ?_
      rotate_left 1
      · intro w; (go_simp <;> with_reducible rfl)
      try simp only [Act.put, List.setIfInBounds_toArray, List.set_cons_zero, List.set_cons_succ]
      refine wpAny_take (i := 4) (oi := _) (v := ?_) (nth_at rfl) (by kernel_rfl) (by kernel_rfl) (by kernel_rfl) (fun _ _ _ h => h) (Or.inl ⟨by rfl, ?_⟩) ?_
      rotate_left 1
      · intro w; (go_simp <;> with_reducible rfl)
      try simp only [Act.put, List.setIfInBounds_toArray, List.set_cons_zero, List.set_cons_succ]
      refine wpAny_take (i := 6) (oi := _) (v := ?_) (nth_at rfl) (by kernel_rfl) (by kernel_rfl) (by kernel_rfl) (fun _ _ _ h => h) (Or.inl ⟨by rfl, ?_⟩) ?_
      rotate_left 1
      · intro w; (go_simp <;> with_reducible rfl)
      try simp only [Act.put, List.setIfInBounds_toArray, List.set_cons_zero, List.set_cons_succ]
      refine wpAny_take (i := 7) (oi := _) (v := ?_) (nth_at rfl) (by kernel_rfl) (by kernel_rfl) (by kernel_rfl) (fun _ _ _ h => h) (Or.inl ⟨by rfl, ?_⟩) ?_
      rotate_left 1
      · intro w; (go_simp <;> with_reducible rfl)
      try simp only [Act.put, List.setIfInBounds_toArray, List.set_cons_zero, List.set_cons_succ]
      refine wpAny_take (i := 10) (oi := _) (v := ?_) (nth_at rfl) (by kernel_rfl) (by kernel_rfl) (by kernel_rfl) (fun _ _ _ h => h) (Or.inl ⟨by rfl, ?_⟩) ?_
      rotate_left 1
      · intro w; (go_simp <;> with_reducible rfl)
      try simp only [Act.put, List.setIfInBounds_toArray, List.set_cons_zero, List.set_cons_succ]
      refine wpAny_take (i := 11) (oi := _) (v := ?_) (nth_at rfl) (by kernel_rfl) (by kernel_rfl) (by kernel_rfl) (fun _ _ _ h => h) (Or.inl ⟨by rfl, ?_⟩) ?_
      rotate_left 1
      · intro w; (go_simp <;> with_reducible rfl)
      try simp only [Act.put, List.setIfInBounds_toArray, List.set_cons_zero, List.set_cons_succ]
      refine wpAny_take (i := 12) (oi := _) (v := ?_) (nth_at rfl) (by kernel_rfl) (by kernel_rfl) (by kernel_rfl) (fun _ _ _ h => h) (Or.inl ⟨by rfl, ?_⟩) ?_
      rotate_left 1
      · intro w; (go_simp <;> with_reducible rfl)
      try simp only [Act.put, List.setIfInBounds_toArray, List.set_cons_zero, List.set_cons_succ]
      refine wpAny_take (i := 13) (oi := _) (v := ?_) (nth_at rfl) (by kernel_rfl) (by kernel_rfl) (by kernel_rfl) (fun _ _ _ h => h) (Or.inl ⟨by rfl, ?_⟩) ?_
      rotate_left 1
      · intro w; (go_simp <;> with_reducible rfl)
      try simp only [Act.put, List.setIfInBounds_toArray, List.set_cons_zero, List.set_cons_succ]
      refine wpAny_take (i := 14) (oi := _) (v := ?_) (nth_at rfl) (by kernel_rfl) (by kernel_rfl) (by kernel_rfl) (fun _ _ _ h => h) (Or.inl ⟨by rfl, ?_⟩) ?_
      rotate_left 1
      · intro w; (go_simp <;> with_reducible rfl)
      try simp only [Act.put, List.setIfInBounds_toArray, List.set_cons_zero, List.set_cons_succ]
      refine wpAny_take (i := 16) (oi := _) (v := ?_) (nth_at rfl) (by kernel_rfl) (by kernel_rfl) (by kernel_rfl) (fun _ _ _ h => h) (Or.inl ⟨by rfl, ?_⟩) ?_
      rotate_left 1
      · intro w; (go_simp <;> with_reducible rfl)
      try simp only [Act.put, List.setIfInBounds_toArray, List.set_cons_zero, List.set_cons_succ]
      refine wpAny_ready (rs := [5, 15]) (by kernel_rfl) (by simp) ?_
      refine AllReady.cons (o := _) (nth_at rfl) (fun K hK => ?_) ?_
      · go_simp
        refine hK _ _ ?_
        clear hK K
        try simp only [Act.put, List.setIfInBounds_toArray, List.set_cons_zero, List.set_cons_succ]
        refine wpAny_take (i := 8) (oi := _) (v := y1) (nth_at rfl) (by kernel_rfl) (by kernel_rfl) (by kernel_rfl) (fun _ _ _ h => h) (Or.inl ⟨by rfl, ?_⟩) ?_
        · intro w; (go_simp <;> (rw [← HY1.out]; simp [sliced, add0_map]))
        try simp only [Act.put, List.setIfInBounds_toArray, List.set_cons_zero, List.set_cons_succ]
        refine wpAny_ready (rs := [9, 15]) (by kernel_rfl) (by simp) ?_
        refine AllReady.cons (o := _) (nth_at rfl) (fun K hK => ?_) ?_
        · go_simp
          with_reducible refine (own_any L1 hf1 y1 _ (hP1.keep (KeepC.of_below hX.drew))).mono ?_
          rintro e w4 ⟨v4, rfl, r4, b4⟩
          have B4 := hX.drew.trans (b4.mono hX.drew.size)
          have Q4 := PartsO.base r4 hX.drew.size
          obtain ⟨e41, e42, rfl, -⟩ := row_form r4.choose_spec.1
          have q40 := (KeepC.of_below B4).2 _ _ _ hq0
          try dsimp only
          refine hK _ _ ?_
          clear hK K
          try simp only [Act.put, List.setIfInBounds_toArray, List.set_cons_zero, List.set_cons_succ]
          refine wpAny_ready (rs := [15]) (by kernel_rfl) (by simp) ?_
          refine AllReady.cons (o := _) (nth_at rfl) (fun K hK => ?_) AllReady.nil
          go_simp
          refine hK _ _ ?_
          clear hK K
          try simp only [Act.put, List.setIfInBounds_toArray, List.set_cons_zero, List.set_cons_succ]
          refine wpAny_take (i := 17) (oi := _) (v := y3) (nth_at rfl) (by kernel_rfl) (by kernel_rfl) (by kernel_rfl) (fun _ _ _ h => h) (Or.inl ⟨by rfl, ?_⟩) ?_
          · intro w; (go_simp <;> (rw [← HY3.out]; simp [sliced, add0_map]))
          try simp only [Act.put, List.setIfInBounds_toArray, List.set_cons_zero, List.set_cons_succ]
          refine wpAny_ready (rs := [18]) (by kernel_rfl) (by simp) ?_
          refine AllReady.cons (o := _) (nth_at rfl) (fun K hK => ?_) AllReady.nil
          go_simp
          with_reducible refine (own_any L3 hf3 y3 _ (hP3.keep (KeepC.of_below B4))).mono ?_
          rintro e w5 ⟨v5, rfl, r5, b5⟩
          have B5 := B4.trans (b5.mono B4.size)
          have Q5 := PartsO.base r5 B4.size
          obtain ⟨e51, e52, rfl, -⟩ := row_form r5.choose_spec.1
          have q50 := (KeepC.of_below B5).2 _ _ _ hq0
          try dsimp only
          refine hK _ _ ?_
          clear hK K
          try simp only [Act.put, List.setIfInBounds_toArray, List.set_cons_zero, List.set_cons_succ]
          refine wpAny_ready (rs := [19]) (by kernel_rfl) (by simp) ?_
          refine AllReady.cons (o := _) (nth_at rfl) (fun K hK => ?_) AllReady.nil
          go_simp
          obtain ⟨W6, hW6⟩ : ∃ W6, w5.alloc (.cells #[.slice e41 L1.length e42, .slice none 0 0, .slice e51 L3.length e52] 22) = W6 := ⟨_, rfl⟩
          rw [hW6]
          have b56 : Below w5.heap.size w5 W6 := by rw [← hW6]; exact (Below.refl _ w5).alloc (Nat.le_refl _) _
          have B6 : Below w.heap.size w W6 := B5.trans (b56.mono B5.size)
          have k6 : Blk W6 w5.heap.size #[.slice e41 L1.length e42, .slice none 0 0, .slice e51 L3.length e52] 22 := by rw [← hW6]; exact Blk.new w5 _ _
          have g45 := grown_of_below b5 none
          have g56 := grown_of_below b56 none
          have gX4 := grown_of_below ((Below.refl w1.heap.size w1).drew.trans b4) none
          have HJ := Lib.hid (join3_any w.heap.size L1 L2 L3 _ _ _ w5.heap.size W6 _ ((Q4.kept g45 (RowT.none _ _)).kept g56 (RowT.none _ _)) (((hP9.kept gX4 (RowT.none _ _)).kept g45 (RowT.none _ _)).kept g56 (RowT.none _ _)) (Q5.kept g56 (RowT.none _ _)) k6 B6.size hf1.1 hl2 hf3.1)
          clear hW6 k6 Q4 Q5 r4 r5
          refine hK _ _ ?_
          clear hK K
          try simp only [Act.put, List.setIfInBounds_toArray, List.set_cons_zero, List.set_cons_succ]
          refine wpAny_ready (rs := [20]) (by kernel_rfl) (by simp) ?_
          refine AllReady.cons (o := _) (nth_at rfl) (fun K hK => ?_) AllReady.nil
          go_simp
          with_reducible refine HJ.out.mono ?_
          rintro e w7 ⟨v7, rfl, r7, b7⟩
          have B7 := B6.trans (b7.mono B6.size)
          have R7 := Lib.hid r7
          obtain ⟨e71, e72, rfl, -⟩ := row_form r7.choose_spec.1
          clear r7
          have q7 := hq.below B7 hql
          have q70 : w7.cell? ⟨q, 0, none⟩ = some (.slice ao l.length cap) := (q7.cell 0).trans rfl
          have q7f := q7.frozen 0
          have Q7 := Lib.hid q7
          clear q7
          try dsimp only
          refine hK _ _ ?_
          clear hK K
          try simp only [Act.put, List.setIfInBounds_toArray, List.set_cons_zero, List.set_cons_succ]
          refine wpAny_take (i := 21) (oi := _) (v := ?_) (nth_at rfl) (by kernel_rfl) (by kernel_rfl) (by kernel_rfl) (fun _ _ _ h => h) (Or.inl ⟨by rfl, ?_⟩) ?_
          rotate_left 1
          · intro w; (go_simp <;> with_reducible rfl)
          try simp only [Act.put, List.setIfInBounds_toArray, List.set_cons_zero, List.set_cons_succ]
          refine wpAny_take (i := 22) (oi := _) (v := ?_) (nth_at rfl) (by kernel_rfl) (by kernel_rfl) (by kernel_rfl) (fun _ _ _ h => h) (Or.inl ⟨by rfl, ?_⟩) ?_
          rotate_left 1
          · intro w; (go_simp <;> with_reducible rfl)
          try simp only [Act.put, List.setIfInBounds_toArray, List.set_cons_zero, List.set_cons_succ]
          refine wpAny_take (i := 23) (oi := _) (v := ?_) (nth_at rfl) (by kernel_rfl) (by kernel_rfl) (by kernel_rfl) (fun _ _ _ h => h) (Or.inl ⟨by rfl, ?_⟩) ?_
          rotate_left 1
          · intro w; (go_simp <;> with_reducible rfl)
          try simp only [Act.put, List.setIfInBounds_toArray, List.set_cons_zero, List.set_cons_succ]
          refine wpAny_ready (rs := [24]) (by kernel_rfl) (by simp) ?_
          refine AllReady.cons (o := _) (nth_at rfl) (fun K hK => ?_) AllReady.nil
          go_simp
          refine hK _ _ ?_
          clear hK K
          try simp only [Act.put, List.setIfInBounds_toArray, List.set_cons_zero, List.set_cons_succ]
          refine wpAny_done (by kernel_rfl) ?_ _
          refine NoPanic.normal ?_
          go_wp2_with fail
          go_end0
          refine ⟨rfl, .slice e71 (L1 ++ (L2 ++ L3)).length e72, ?_, ?_, ?_⟩
          · have := Q7.out.set 0 (.slice e71 (L1 ++ (L2 ++ L3)).length e72); simpa using this
          · rw [← HT.out]; exact R7.out.kept (grownBy_setCellB w7 q 0 _) (RowT.blk Q7.out _ (by decide))
          · exact grownBy_t (grown_of_below B7 _) (grownBy_setCellB w7 q 0 _)
        refine AllReady.cons (o := _) (nth_at rfl) (fun K hK => ?_) AllReady.nil
        go_simp
        refine hK _ _ ?_
        clear hK K
        try simp only [Act.put, List.setIfInBounds_toArray, List.set_cons_zero, List.set_cons_succ]
        refine wpAny_take (i := 17) (oi := _) (v := y3) (nth_at rfl) (by kernel_rfl) (by kernel_rfl) (by kernel_rfl) (fun _ _ _ h => h) (Or.inl ⟨by rfl, ?_⟩) ?_
        · intro w; (go_simp <;> (rw [← HY3.out]; simp [sliced, add0_map]))
        try simp only [Act.put, List.setIfInBounds_toArray, List.set_cons_zero, List.set_cons_succ]
        refine wpAny_ready (rs := [9]) (by kernel_rfl) (by simp) ?_
        refine AllReady.cons (o := _) (nth_at rfl) (fun K hK => ?_) AllReady.nil
        go_simp
        with_reducible refine (own_any L1 hf1 y1 _ (hP1.keep (KeepC.of_below hX.drew))).mono ?_
        rintro e w4 ⟨v4, rfl, r4, b4⟩
        have B4 := hX.drew.trans (b4.mono hX.drew.size)
        have Q4 := PartsO.base r4 hX.drew.size
        obtain ⟨e41, e42, rfl, -⟩ := row_form r4.choose_spec.1
        have q40 := (KeepC.of_below B4).2 _ _ _ hq0
        try dsimp only
        refine hK _ _ ?_
        clear hK K
        try simp only [Act.put, List.setIfInBounds_toArray, List.set_cons_zero, List.set_cons_succ]
        refine wpAny_ready (rs := [18]) (by kernel_rfl) (by simp) ?_
        refine AllReady.cons (o := _) (nth_at rfl) (fun K hK => ?_) AllReady.nil
        go_simp
        with_reducible refine (own_any L3 hf3 y3 _ (hP3.keep (KeepC.of_below B4))).mono ?_
        rintro e w5 ⟨v5, rfl, r5, b5⟩
        have B5 := B4.trans (b5.mono B4.size)
        have Q5 := PartsO.base r5 B4.size
        obtain ⟨e51, e52, rfl, -⟩ := row_form r5.choose_spec.1
        have q50 := (KeepC.of_below B5).2 _ _ _ hq0
        try dsimp only
        refine hK _ _ ?_
        clear hK K
        try simp only [Act.put, List.setIfInBounds_toArray, List.set_cons_zero, List.set_cons_succ]
        refine wpAny_ready (rs := [19]) (by kernel_rfl) (by simp) ?_
        refine AllReady.cons (o := _) (nth_at rfl) (fun K hK => ?_) AllReady.nil
        go_simp
        obtain ⟨W6, hW6⟩ : ∃ W6, w5.alloc (.cells #[.slice e41 L1.length e42, .slice none 0 0, .slice e51 L3.length e52] 22) = W6 := ⟨_, rfl⟩
        rw [hW6]
        have b56 : Below w5.heap.size w5 W6 := by rw [← hW6]; exact (Below.refl _ w5).alloc (Nat.le_refl _) _
        have B6 : Below w.heap.size w W6 := B5.trans (b56.mono B5.size)
        have k6 : Blk W6 w5.heap.size #[.slice e41 L1.length e42, .slice none 0 0, .slice e51 L3.length e52] 22 := by rw [← hW6]; exact Blk.new w5 _ _
        have g45 := grown_of_below b5 none
        have g56 := grown_of_below b56 none
        have gX4 := grown_of_below ((Below.refl w1.heap.size w1).drew.trans b4) none
        have HJ := Lib.hid (join3_any w.heap.size L1 L2 L3 _ _ _ w5.heap.size W6 _ ((Q4.kept g45 (RowT.none _ _)).kept g56 (RowT.none _ _)) (((hP9.kept gX4 (RowT.none _ _)).kept g45 (RowT.none _ _)).kept g56 (RowT.none _ _)) (Q5.kept g56 (RowT.none _ _)) k6 B6.size hf1.1 hl2 hf3.1)
        clear hW6 k6 Q4 Q5 r4 r5
        refine hK _ _ ?_
        clear hK K
        try simp only [Act.put, List.setIfInBounds_toArray, List.set_cons_zero, List.set_cons_succ]
        refine wpAny_ready (rs := [20]) (by kernel_rfl) (by simp) ?_
        refine AllReady.cons (o := _) (nth_at rfl) (fun K hK => ?_) AllReady.nil
        go_simp
        with_reducible refine HJ.out.mono ?_
        rintro e w7 ⟨v7, rfl, r7, b7⟩
        have B7 := B6.trans (b7.mono B6.size)
        have R7 := Lib.hid r7
        obtain ⟨e71, e72, rfl, -⟩ := row_form r7.choose_spec.1
        clear r7
        have q7 := hq.below B7 hql
        have q70 : w7.cell? ⟨q, 0, none⟩ = some (.slice ao l.length cap) := (q7.cell 0).trans rfl
        have q7f := q7.frozen 0
        have Q7 := Lib.hid q7
        clear q7
        try dsimp only
        refine hK _ _ ?_
        clear hK K
        try simp only [Act.put, List.setIfInBounds_toArray, List.set_cons_zero, List.set_cons_succ]
        refine wpAny_take (i := 21) (oi := _) (v := ?_) (nth_at rfl) (by kernel_rfl) (by kernel_rfl) (by kernel_rfl) (fun _ _ _ h => h) (Or.inl ⟨by rfl, ?_⟩) ?_
        rotate_left 1
        · intro w; (go_simp <;> with_reducible rfl)
        try simp only [Act.put, List.setIfInBounds_toArray, List.set_cons_zero, List.set_cons_succ]
        refine wpAny_take (i := 22) (oi := _) (v := ?_) (nth_at rfl) (by kernel_rfl) (by kernel_rfl) (by kernel_rfl) (fun _ _ _ h => h) (Or.inl ⟨by rfl, ?_⟩) ?_
        rotate_left 1
        · intro w; (go_simp <;> with_reducible rfl)
        try simp only [Act.put, List.setIfInBounds_toArray, List.set_cons_zero, List.set_cons_succ]
        refine wpAny_take (i := 23) (oi := _) (v := ?_) (nth_at rfl) (by kernel_rfl) (by kernel_rfl) (by kernel_rfl) (fun _ _ _ h => h) (Or.inl ⟨by rfl, ?_⟩) ?_
        rotate_left 1
        · intro w; (go_simp <;> with_reducible rfl)
        try simp only [Act.put, List.setIfInBounds_toArray, List.set_cons_zero, List.set_cons_succ]
        refine wpAny_ready (rs := [24]) (by kernel_rfl) (by simp) ?_
        refine AllReady.cons (o := _) (nth_at rfl) (fun K hK => ?_) AllReady.nil
        go_simp
        refine hK _ _ ?_
        clear hK K
        try simp only [Act.put, List.setIfInBounds_toArray, List.set_cons_zero, List.set_cons_succ]
        refine wpAny_done (by kernel_rfl) ?_ _
        refine NoPanic.normal ?_
        go_wp2_with fail
        go_end0
        refine ⟨rfl, .slice e71 (L1 ++ (L2 ++ L3)).length e72, ?_, ?_, ?_⟩
        · have := Q7.out.set 0 (.slice e71 (L1 ++ (L2 ++ L3)).length e72); simpa using this
        · rw [← HT.out]; exact R7.out.kept (grownBy_setCellB w7 q 0 _) (RowT.blk Q7.out _ (by decide))
        · exact grownBy_t (grown_of_below B7 _) (grownBy_setCellB w7 q 0 _)
      refine AllReady.cons (o := _) (nth_at rfl) (fun K hK => ?_) AllReady.nil
      go_simp
      refine hK _ _ ?_
      clear hK K
      try simp only [Act.put, List.setIfInBounds_toArray, List.set_cons_zero, List.set_cons_succ]
      refine wpAny_take (i := 17) (oi := _) (v := y3) (nth_at rfl) (by kernel_rfl) (by kernel_rfl) (by kernel_rfl) (fun _ _ _ h => h) (Or.inl ⟨by rfl, ?_⟩) ?_
      · intro w; (go_simp <;> (rw [← HY3.out]; simp [sliced, add0_map]))
      try simp only [Act.put, List.setIfInBounds_toArray, List.set_cons_zero, List.set_cons_succ]
      refine wpAny_ready (rs := [5]) (by kernel_rfl) (by simp) ?_
      refine AllReady.cons (o := _) (nth_at rfl) (fun K hK => ?_) AllReady.nil
      go_simp
      refine hK _ _ ?_
      clear hK K
      try simp only [Act.put, List.setIfInBounds_toArray, List.set_cons_zero, List.set_cons_succ]
      refine wpAny_take (i := 8) (oi := _) (v := y1) (nth_at rfl) (by kernel_rfl) (by kernel_rfl) (by kernel_rfl) (fun _ _ _ h => h) (Or.inl ⟨by rfl, ?_⟩) ?_
      · intro w; (go_simp <;> (rw [← HY1.out]; simp [sliced, add0_map]))
      try simp only [Act.put, List.setIfInBounds_toArray, List.set_cons_zero, List.set_cons_succ]
      refine wpAny_ready (rs := [9]) (by kernel_rfl) (by simp) ?_
      refine AllReady.cons (o := _) (nth_at rfl) (fun K hK => ?_) AllReady.nil
      go_simp
      with_reducible refine (own_any L1 hf1 y1 _ (hP1.keep (KeepC.of_below hX.drew))).mono ?_
      rintro e w4 ⟨v4, rfl, r4, b4⟩
      have B4 := hX.drew.trans (b4.mono hX.drew.size)
      have Q4 := PartsO.base r4 hX.drew.size
      obtain ⟨e41, e42, rfl, -⟩ := row_form r4.choose_spec.1
      have q40 := (KeepC.of_below B4).2 _ _ _ hq0
      try dsimp only
      refine hK _ _ ?_
      clear hK K
      try simp only [Act.put, List.setIfInBounds_toArray, List.set_cons_zero, List.set_cons_succ]
      refine wpAny_ready (rs := [18]) (by kernel_rfl) (by simp) ?_
      refine AllReady.cons (o := _) (nth_at rfl) (fun K hK => ?_) AllReady.nil
      go_simp
      with_reducible refine (own_any L3 hf3 y3 _ (hP3.keep (KeepC.of_below B4))).mono ?_
      rintro e w5 ⟨v5, rfl, r5, b5⟩
      have B5 := B4.trans (b5.mono B4.size)
      have Q5 := PartsO.base r5 B4.size
      obtain ⟨e51, e52, rfl, -⟩ := row_form r5.choose_spec.1
      have q50 := (KeepC.of_below B5).2 _ _ _ hq0
      try dsimp only
      refine hK _ _ ?_
      clear hK K
      try simp only [Act.put, List.setIfInBounds_toArray, List.set_cons_zero, List.set_cons_succ]
      refine wpAny_ready (rs := [19]) (by kernel_rfl) (by simp) ?_
      refine AllReady.cons (o := _) (nth_at rfl) (fun K hK => ?_) AllReady.nil
      go_simp
      obtain ⟨W6, hW6⟩ : ∃ W6, w5.alloc (.cells #[.slice e41 L1.length e42, .slice none 0 0, .slice e51 L3.length e52] 22) = W6 := ⟨_, rfl⟩
      rw [hW6]
      have b56 : Below w5.heap.size w5 W6 := by rw [← hW6]; exact (Below.refl _ w5).alloc (Nat.le_refl _) _
      have B6 : Below w.heap.size w W6 := B5.trans (b56.mono B5.size)
      have k6 : Blk W6 w5.heap.size #[.slice e41 L1.length e42, .slice none 0 0, .slice e51 L3.length e52] 22 := by rw [← hW6]; exact Blk.new w5 _ _
      have g45 := grown_of_below b5 none
      have g56 := grown_of_below b56 none
      have gX4 := grown_of_below ((Below.refl w1.heap.size w1).drew.trans b4) none
      have HJ := Lib.hid (join3_any w.heap.size L1 L2 L3 _ _ _ w5.heap.size W6 _ ((Q4.kept g45 (RowT.none _ _)).kept g56 (RowT.none _ _)) (((hP9.kept gX4 (RowT.none _ _)).kept g45 (RowT.none _ _)).kept g56 (RowT.none _ _)) (Q5.kept g56 (RowT.none _ _)) k6 B6.size hf1.1 hl2 hf3.1)
      clear hW6 k6 Q4 Q5 r4 r5
      refine hK _ _ ?_
      clear hK K
      try simp only [Act.put, List.setIfInBounds_toArray, List.set_cons_zero, List.set_cons_succ]
      refine wpAny_ready (rs := [20]) (by kernel_rfl) (by simp) ?_
      refine AllReady.cons (o := _) (nth_at rfl) (fun K hK => ?_) AllReady.nil
      go_simp
      with_reducible refine HJ.out.mono ?_
      rintro e w7 ⟨v7, rfl, r7, b7⟩
      have B7 := B6.trans (b7.mono B6.size)
      have R7 := Lib.hid r7
      obtain ⟨e71, e72, rfl, -⟩ := row_form r7.choose_spec.1
      clear r7
      have q7 := hq.below B7 hql
      have q70 : w7.cell? ⟨q, 0, none⟩ = some (.slice ao l.length cap) := (q7.cell 0).trans rfl
      have q7f := q7.frozen 0
      have Q7 := Lib.hid q7
      clear q7
      try dsimp only
      refine hK _ _ ?_
      clear hK K
      try simp only [Act.put, List.setIfInBounds_toArray, List.set_cons_zero, List.set_cons_succ]
      refine wpAny_take (i := 21) (oi := _) (v := ?_) (nth_at rfl) (by kernel_rfl) (by kernel_rfl) (by kernel_rfl) (fun _ _ _ h => h) (Or.inl ⟨by rfl, ?_⟩) ?_
      rotate_left 1
      · intro w; (go_simp <;> with_reducible rfl)
      try simp only [Act.put, List.setIfInBounds_toArray, List.set_cons_zero, List.set_cons_succ]
      refine wpAny_take (i := 22) (oi := _) (v := ?_) (nth_at rfl) (by kernel_rfl) (by kernel_rfl) (by kernel_rfl) (fun _ _ _ h => h) (Or.inl ⟨by rfl, ?_⟩) ?_
      rotate_left 1
      · intro w; (go_simp <;> with_reducible rfl)
      try simp only [Act.put, List.setIfInBounds_toArray, List.set_cons_zero, List.set_cons_succ]
      refine wpAny_take (i := 23) (oi := _) (v := ?_) (nth_at rfl) (by kernel_rfl) (by kernel_rfl) (by kernel_rfl) (fun _ _ _ h => h) (Or.inl ⟨by rfl, ?_⟩) ?_
      rotate_left 1
      · intro w; (go_simp <;> with_reducible rfl)
      try simp only [Act.put, List.setIfInBounds_toArray, List.set_cons_zero, List.set_cons_succ]
      refine wpAny_ready (rs := [24]) (by kernel_rfl) (by simp) ?_
      refine AllReady.cons (o := _) (nth_at rfl) (fun K hK => ?_) AllReady.nil
      go_simp
      refine hK _ _ ?_
      clear hK K
      try simp only [Act.put, List.setIfInBounds_toArray, List.set_cons_zero, List.set_cons_succ]
      refine wpAny_done (by kernel_rfl) ?_ _
      refine NoPanic.normal ?_
      go_wp2_with fail
      go_end0
      refine ⟨rfl, .slice e71 (L1 ++ (L2 ++ L3)).length e72, ?_, ?_, ?_⟩
      · have := Q7.out.set 0 (.slice e71 (L1 ++ (L2 ++ L3)).length e72); simpa using this
      · rw [← HT.out]; exact R7.out.kept (grownBy_setCellB w7 q 0 _) (RowT.blk Q7.out _ (by decide))
      · exact grownBy_t (grown_of_below B7 _) (grownBy_setCellB w7 q 0 _)
    · have hoz : (0 : Int) < (os.length : Int) := by omega
      have hHL := HL w1.drew (KeepC.of_below hX0.drew)
      have SK1 : Hid (∀ W, Below w1.heap.size w1 W → W.cell? ⟨w.heap.size, 0, none⟩ = some (.int .i64 l2) ∧ W.cell? ⟨w.heap.size, 1, none⟩ = some (.int .u64 S2) ∧ W.cell? ⟨w.heap.size, 2, none⟩ = some (.int .i64 i2)) := by
        show ∀ W, _
        intro W h
        exact SK.out W (hbb.trans (h.mono hbb.size))
      clear HL
      go_wp2_with fail
      go_region_held3 (fun u => u.cell? ⟨w.heap.size, 0, none⟩ = some (.int .i64 l2) ∧ u.cell? ⟨w.heap.size, 1, none⟩ = some (.int .u64 S2) ∧ u.cell? ⟨w.heap.size, 2, none⟩ = some (.int .i64 i2))
        (first | go_keep | exact kk2 | exact SK1.out _ ((Below.refl w1.heap.size w1).drew) | exact SK1.out _ (hbb2.alloc hbb2.size _))
        (first
          | (go_at_call 28; go_must (with_reducible refine hHL.mono ?_); rintro e w2 ⟨v2, rfl, ho2, hb2⟩; have hbb2 := (Below.refl w1.heap.size w1).drew.trans hb2; have kk2 := SK1.out _ hbb2; obtain ⟨a22, c22, hv22, -⟩ := ho2.view.at; subst hv22))
      have hmid : midL ⟨l2, S2, i2⟩ os = [⟨l2, S2, i2, os⟩] := by
        have : os.isEmpty = false := by cases os with | nil => exact absurd rfl hos | cons x r => rfl
        unfold midL; rw [this]; rfl
      rw [hmid] at HT
      have hX2 := hX0.trans (hbb2.mono hX0.size)
      have hP9 : PartsO w.heap.size 46 40 9 (w2.alloc (.cells #[.int .i64 l2, .int .u64 S2, .int .i64 i2, .slice a22 os.length c22] 46)) (.slice (some ⟨w2.heap.size, 0, none⟩) 1 1) [⟨l2, S2, i2, os⟩] :=
        ⟨_, World.ownsRow_lit w2 #[.int .i64 l2, .int .u64 S2, .int .i64 i2, .slice a22 os.length c22] 1 hX2.size (by decide) rfl,
          Rows.one ⟨_, rfl, (ObjsO.base ho2 hX0.size).kept (World.grownBy_alloc w2 _ none) (RowT.none _ _)⟩⟩
      have hX := hX2.alloc hX2.size (.cells #[.int .i64 l2, .int .u64 S2, .int .i64 i2, .slice a22 os.length c22] 46)
      have hl2 : ([⟨l2, S2, i2, os⟩] : List PartD).length ≤ 1000000 := by simp
      generalize ([⟨l2, S2, i2, os⟩] : List PartD) = L2 at hP9 HT hl2
      generalize w2.alloc (.cells #[.int .i64 l2, .int .u64 S2, .int .i64 i2, .slice a22 os.length c22] 46) = W3 at *
      have q10 := (KeepC.of_below hX).2 _ _ _ hq0
      clear hHL SK1 kk2 hmid ho2 hb2
      go_wp2_with fail
      refine wp_region_noPanic ?_
      refine wp_region_any (by kernel_rfl) ?_
      change wpAny _ _ _ _ _ _ _ (World.drew _)
      refine wpAny_take (i := 0) (oi := _) (v := ?_) (nth_at rfl) (by kernel_rfl) (by kernel_rfl) (by kernel_rfl) (fun _ _ _ h => h) (Or.inl ⟨by rfl, ?_⟩) ?_
      rotate_left 1
      · intro w; (go_simp <;> with_reducible rfl)
      try simp only [Act.put, List.setIfInBounds_toArray, List.set_cons_zero, List.set_cons_succ]
      refine wpAny_take (i := 1) (oi := _) (v := ?_) (nth_at rfl) (by kernel_rfl) (by kernel_rfl) (by kernel_rfl) (fun _ _ _ h => h) (Or.inl ⟨by rfl, ?_⟩) ?_
      rotate_left 1
      · intro w; (go_simp <;> with_reducible rfl)
      try simp only [Act.put, List.setIfInBounds_toArray, List.set_cons_zero, List.set_cons_succ]
      refine wpAny_take (i := 2) (oi := _) (v := ?_) (nth_at rfl) (by kernel_rfl) (by kernel_rfl) (by kernel_rfl) (fun _ _ _ h => h) (Or.inl ⟨by rfl, ?_⟩) ?_
      rotate_left 1
      · intro w; (go_simp <;> with_reducible rfl)
      try simp only [Act.put, List.setIfInBounds_toArray, List.set_cons_zero, List.set_cons_succ]
      refine wpAny_take (i := 3) (oi := _) (v := ?_) (nth_at rfl) (by kernel_rfl) (by kernel_rfl) (by kernel_rfl) (fun _ _ _ h => h) (Or.inl ⟨by rfl, ?_⟩) ?_
      rotate_left 1
      · intro w; (go_simp <;> with_reducible rfl)
      try simp only [Act.put, List.setIfInBounds_toArray, List.set_cons_zero, List.set_cons_succ]
      refine wpAny_take (i := 4) (oi := _) (v := ?_) (nth_at rfl) (by kernel_rfl) (by kernel_rfl) (by kernel_rfl) (fun _ _ _ h => h) (Or.inl ⟨by rfl, ?_⟩) ?_
      rotate_left 1
      · intro w; (go_simp <;> with_reducible rfl)
      try simp only [Act.put, List.setIfInBounds_toArray, List.set_cons_zero, List.set_cons_succ]
      refine wpAny_take (i := 6) (oi := _) (v := ?_) (nth_at rfl) (by kernel_rfl) (by kernel_rfl) (by kernel_rfl) (fun _ _ _ h => h) (Or.inl ⟨by rfl, ?_⟩) ?_
      rotate_left 1
      · intro w; (go_simp <;> with_reducible rfl)
      try simp only [Act.put, List.setIfInBounds_toArray, List.set_cons_zero, List.set_cons_succ]
      refine wpAny_take (i := 7) (oi := _) (v := ?_) (nth_at rfl) (by kernel_rfl) (by kernel_rfl) (by kernel_rfl) (fun _ _ _ h => h) (Or.inl ⟨by rfl, ?_⟩) ?_
      rotate_left 1
      · intro w; (go_simp <;> with_reducible rfl)
      try simp only [Act.put, List.setIfInBounds_toArray, List.set_cons_zero, List.set_cons_succ]
      refine wpAny_take (i := 10) (oi := _) (v := ?_) (nth_at rfl) (by kernel_rfl) (by kernel_rfl) (by kernel_rfl) (fun _ _ _ h => h) (Or.inl ⟨by rfl, ?_⟩) ?_
      rotate_left 1
      · intro w; (go_simp <;> with_reducible rfl)
      try simp only [Act.put, List.setIfInBounds_toArray, List.set_cons_zero, List.set_cons_succ]
      refine wpAny_take (i := 11) (oi := _) (v := ?_) (nth_at rfl) (by kernel_rfl) (by kernel_rfl) (by kernel_rfl) (fun _ _ _ h => h) (Or.inl ⟨by rfl, ?_⟩) ?_
      rotate_left 1
      · intro w; (go_simp <;> with_reducible rfl)
      try simp only [Act.put, List.setIfInBounds_toArray, List.set_cons_zero, List.set_cons_succ]
      refine wpAny_take (i := 12) (oi := _) (v := ?_) (nth_at rfl) (by kernel_rfl) (by kernel_rfl) (by kernel_rfl) (fun _ _ _ h => h) (Or.inl ⟨by rfl, ?_⟩) ?_
      rotate_left 1
      · intro w; (go_simp <;> with_reducible rfl)
      try simp only [Act.put, List.setIfInBounds_toArray, List.set_cons_zero, List.set_cons_succ]
      refine wpAny_take (i := 13) (oi := _) (v := ?_) (nth_at rfl) (by kernel_rfl) (by kernel_rfl) (by kernel_rfl) (fun _ _ _ h => h) (Or.inl ⟨by rfl, ?_⟩) ?_
      rotate_left 1
      · intro w; (go_simp <;> with_reducible rfl)
      try simp only [Act.put, List.setIfInBounds_toArray, List.set_cons_zero, List.set_cons_succ]
      refine wpAny_take (i := 14) (oi := _) (v := ?_) (nth_at rfl) (by kernel_rfl) (by kernel_rfl) (by kernel_rfl) (fun _ _ _ h => h) (Or.inl ⟨by rfl, ?_⟩) ?_
      rotate_left 1
      · intro w; (go_simp <;> with_reducible rfl)
      try simp only [Act.put, List.setIfInBounds_toArray, List.set_cons_zero, List.set_cons_succ]
      refine wpAny_take (i := 16) (oi := _) (v := ?_) (nth_at rfl) (by kernel_rfl) (by kernel_rfl) (by kernel_rfl) (fun _ _ _ h => h) (Or.inl ⟨by rfl, ?_⟩) ?_
      rotate_left 1
      · intro w; (go_simp <;> with_reducible rfl)
      try simp only [Act.put, List.setIfInBounds_toArray, List.set_cons_zero, List.set_cons_succ]
      refine wpAny_ready (rs := [5, 15]) (by kernel_rfl) (by simp) ?_
      refine AllReady.cons (o := _) (nth_at rfl) (fun K hK => ?_) ?_
      · go_simp
        refine hK _ _ ?_
        clear hK K
        try simp only [Act.put, List.setIfInBounds_toArray, List.set_cons_zero, List.set_cons_succ]
        refine wpAny_take (i := 8) (oi := _) (v := y1) (nth_at rfl) (by kernel_rfl) (by kernel_rfl) (by kernel_rfl) (fun _ _ _ h => h) (Or.inl ⟨by rfl, ?_⟩) ?_
        · intro w; (go_simp <;> (rw [← HY1.out]; simp [sliced, add0_map]))
        try simp only [Act.put, List.setIfInBounds_toArray, List.set_cons_zero, List.set_cons_succ]
        refine wpAny_ready (rs := [9, 15]) (by kernel_rfl) (by simp) ?_
        refine AllReady.cons (o := _) (nth_at rfl) (fun K hK => ?_) ?_
        · go_simp
          with_reducible refine (own_any L1 hf1 y1 _ (hP1.keep (KeepC.of_below hX.drew))).mono ?_
          rintro e w4 ⟨v4, rfl, r4, b4⟩
          have B4 := hX.drew.trans (b4.mono hX.drew.size)
          have Q4 := PartsO.base r4 hX.drew.size
          obtain ⟨e41, e42, rfl, -⟩ := row_form r4.choose_spec.1
          have q40 := (KeepC.of_below B4).2 _ _ _ hq0
          try dsimp only
          refine hK _ _ ?_
          clear hK K
          try simp only [Act.put, List.setIfInBounds_toArray, List.set_cons_zero, List.set_cons_succ]
          refine wpAny_ready (rs := [15]) (by kernel_rfl) (by simp) ?_
          refine AllReady.cons (o := _) (nth_at rfl) (fun K hK => ?_) AllReady.nil
          go_simp
          refine hK _ _ ?_
          clear hK K
          try simp only [Act.put, List.setIfInBounds_toArray, List.set_cons_zero, List.set_cons_succ]
          refine wpAny_take (i := 17) (oi := _) (v := y3) (nth_at rfl) (by kernel_rfl) (by kernel_rfl) (by kernel_rfl) (fun _ _ _ h => h) (Or.inl ⟨by rfl, ?_⟩) ?_
          · intro w; (go_simp <;> (rw [← HY3.out]; simp [sliced, add0_map]))
          try simp only [Act.put, List.setIfInBounds_toArray, List.set_cons_zero, List.set_cons_succ]
          refine wpAny_ready (rs := [18]) (by kernel_rfl) (by simp) ?_
          refine AllReady.cons (o := _) (nth_at rfl) (fun K hK => ?_) AllReady.nil
          go_simp
          with_reducible refine (own_any L3 hf3 y3 _ (hP3.keep (KeepC.of_below B4))).mono ?_
          rintro e w5 ⟨v5, rfl, r5, b5⟩
          have B5 := B4.trans (b5.mono B4.size)
          have Q5 := PartsO.base r5 B4.size
          obtain ⟨e51, e52, rfl, -⟩ := row_form r5.choose_spec.1
          have q50 := (KeepC.of_below B5).2 _ _ _ hq0
          try dsimp only
          refine hK _ _ ?_
          clear hK K
          try simp only [Act.put, List.setIfInBounds_toArray, List.set_cons_zero, List.set_cons_succ]
          refine wpAny_ready (rs := [19]) (by kernel_rfl) (by simp) ?_
          refine AllReady.cons (o := _) (nth_at rfl) (fun K hK => ?_) AllReady.nil
          go_simp
          obtain ⟨W6, hW6⟩ : ∃ W6, w5.alloc (.cells #[.slice e41 L1.length e42, .slice (some ⟨w2.heap.size, 0, none⟩) 1 1, .slice e51 L3.length e52] 22) = W6 := ⟨_, rfl⟩
          rw [hW6]
          have b56 : Below w5.heap.size w5 W6 := by rw [← hW6]; exact (Below.refl _ w5).alloc (Nat.le_refl _) _
          have B6 : Below w.heap.size w W6 := B5.trans (b56.mono B5.size)
          have k6 : Blk W6 w5.heap.size #[.slice e41 L1.length e42, .slice (some ⟨w2.heap.size, 0, none⟩) 1 1, .slice e51 L3.length e52] 22 := by rw [← hW6]; exact Blk.new w5 _ _
          have g45 := grown_of_below b5 none
          have g56 := grown_of_below b56 none
          have gX4 := grown_of_below ((Below.refl W3.heap.size W3).drew.trans b4) none
          have HJ := Lib.hid (join3_any w.heap.size L1 L2 L3 _ _ _ w5.heap.size W6 _ ((Q4.kept g45 (RowT.none _ _)).kept g56 (RowT.none _ _)) (((hP9.kept gX4 (RowT.none _ _)).kept g45 (RowT.none _ _)).kept g56 (RowT.none _ _)) (Q5.kept g56 (RowT.none _ _)) k6 B6.size hf1.1 hl2 hf3.1)
          clear hW6 k6 Q4 Q5 r4 r5
          refine hK _ _ ?_
          clear hK K
          try simp only [Act.put, List.setIfInBounds_toArray, List.set_cons_zero, List.set_cons_succ]
          refine wpAny_ready (rs := [20]) (by kernel_rfl) (by simp) ?_
          refine AllReady.cons (o := _) (nth_at rfl) (fun K hK => ?_) AllReady.nil
          go_simp
          with_reducible refine HJ.out.mono ?_
          rintro e w7 ⟨v7, rfl, r7, b7⟩
          have B7 := B6.trans (b7.mono B6.size)
          have R7 := Lib.hid r7
          obtain ⟨e71, e72, rfl, -⟩ := row_form r7.choose_spec.1
          clear r7
          have q7 := hq.below B7 hql
          have q70 : w7.cell? ⟨q, 0, none⟩ = some (.slice ao l.length cap) := (q7.cell 0).trans rfl
          have q7f := q7.frozen 0
          have Q7 := Lib.hid q7
          clear q7
          try dsimp only
          refine hK _ _ ?_
          clear hK K
          try simp only [Act.put, List.setIfInBounds_toArray, List.set_cons_zero, List.set_cons_succ]
          refine wpAny_take (i := 21) (oi := _) (v := ?_) (nth_at rfl) (by kernel_rfl) (by kernel_rfl) (by kernel_rfl) (fun _ _ _ h => h) (Or.inl ⟨by rfl, ?_⟩) ?_
          rotate_left 1
          · intro w; (go_simp <;> with_reducible rfl)
          try simp only [Act.put, List.setIfInBounds_toArray, List.set_cons_zero, List.set_cons_succ]
          refine wpAny_take (i := 22) (oi := _) (v := ?_) (nth_at rfl) (by kernel_rfl) (by kernel_rfl) (by kernel_rfl) (fun _ _ _ h => h) (Or.inl ⟨by rfl, ?_⟩) ?_
          rotate_left 1
          · intro w; (go_simp <;> with_reducible rfl)
          try simp only [Act.put, List.setIfInBounds_toArray, List.set_cons_zero, List.set_cons_succ]
          refine wpAny_take (i := 23) (oi := _) (v := ?_) (nth_at rfl) (by kernel_rfl) (by kernel_rfl) (by kernel_rfl) (fun _ _ _ h => h) (Or.inl ⟨by rfl, ?_⟩) ?_
          rotate_left 1
          · intro w; (go_simp <;> with_reducible rfl)
          try simp only [Act.put, List.setIfInBounds_toArray, List.set_cons_zero, List.set_cons_succ]
          refine wpAny_ready (rs := [24]) (by kernel_rfl) (by simp) ?_
          refine AllReady.cons (o := _) (nth_at rfl) (fun K hK => ?_) AllReady.nil
          go_simp
          refine hK _ _ ?_
          clear hK K
          try simp only [Act.put, List.setIfInBounds_toArray, List.set_cons_zero, List.set_cons_succ]
          refine wpAny_done (by kernel_rfl) ?_ _
          refine NoPanic.normal ?_
          go_wp2_with fail
          go_end0
          refine ⟨rfl, .slice e71 (L1 ++ (L2 ++ L3)).length e72, ?_, ?_, ?_⟩
          · have := Q7.out.set 0 (.slice e71 (L1 ++ (L2 ++ L3)).length e72); simpa using this
          · rw [← HT.out]; exact R7.out.kept (grownBy_setCellB w7 q 0 _) (RowT.blk Q7.out _ (by decide))
          · exact grownBy_t (grown_of_below B7 _) (grownBy_setCellB w7 q 0 _)
        refine AllReady.cons (o := _) (nth_at rfl) (fun K hK => ?_) AllReady.nil
        go_simp
        refine hK _ _ ?_
        clear hK K
        try simp only [Act.put, List.setIfInBounds_toArray, List.set_cons_zero, List.set_cons_succ]
        refine wpAny_take (i := 17) (oi := _) (v := y3) (nth_at rfl) (by kernel_rfl) (by kernel_rfl) (by kernel_rfl) (fun _ _ _ h => h) (Or.inl ⟨by rfl, ?_⟩) ?_
        · intro w; (go_simp <;> (rw [← HY3.out]; simp [sliced, add0_map]))
        try simp only [Act.put, List.setIfInBounds_toArray, List.set_cons_zero, List.set_cons_succ]
        refine wpAny_ready (rs := [9]) (by kernel_rfl) (by simp) ?_
        refine AllReady.cons (o := _) (nth_at rfl) (fun K hK => ?_) AllReady.nil
        go_simp
        with_reducible refine (own_any L1 hf1 y1 _ (hP1.keep (KeepC.of_below hX.drew))).mono ?_
        rintro e w4 ⟨v4, rfl, r4, b4⟩
        have B4 := hX.drew.trans (b4.mono hX.drew.size)
        have Q4 := PartsO.base r4 hX.drew.size
        obtain ⟨e41, e42, rfl, -⟩ := row_form r4.choose_spec.1
        have q40 := (KeepC.of_below B4).2 _ _ _ hq0
        try dsimp only
        refine hK _ _ ?_
        clear hK K
        try simp only [Act.put, List.setIfInBounds_toArray, List.set_cons_zero, List.set_cons_succ]
        refine wpAny_ready (rs := [18]) (by kernel_rfl) (by simp) ?_
        refine AllReady.cons (o := _) (nth_at rfl) (fun K hK => ?_) AllReady.nil
        go_simp
        with_reducible refine (own_any L3 hf3 y3 _ (hP3.keep (KeepC.of_below B4))).mono ?_
        rintro e w5 ⟨v5, rfl, r5, b5⟩
        have B5 := B4.trans (b5.mono B4.size)
        have Q5 := PartsO.base r5 B4.size
        obtain ⟨e51, e52, rfl, -⟩ := row_form r5.choose_spec.1
        have q50 := (KeepC.of_below B5).2 _ _ _ hq0
        try dsimp only
        refine hK _ _ ?_
        clear hK K
        try simp only [Act.put, List.setIfInBounds_toArray, List.set_cons_zero, List.set_cons_succ]
        refine wpAny_ready (rs := [19]) (by kernel_rfl) (by simp) ?_
        refine AllReady.cons (o := _) (nth_at rfl) (fun K hK => ?_) AllReady.nil
        go_simp
        obtain ⟨W6, hW6⟩ : ∃ W6, w5.alloc (.cells #[.slice e41 L1.length e42, .slice (some ⟨w2.heap.size, 0, none⟩) 1 1, .slice e51 L3.length e52] 22) = W6 := ⟨_, rfl⟩
        rw [hW6]
        have b56 : Below w5.heap.size w5 W6 := by rw [← hW6]; exact (Below.refl _ w5).alloc (Nat.le_refl _) _
        have B6 : Below w.heap.size w W6 := B5.trans (b56.mono B5.size)
        have k6 : Blk W6 w5.heap.size #[.slice e41 L1.length e42, .slice (some ⟨w2.heap.size, 0, none⟩) 1 1, .slice e51 L3.length e52] 22 := by rw [← hW6]; exact Blk.new w5 _ _
        have g45 := grown_of_below b5 none
        have g56 := grown_of_below b56 none
        have gX4 := grown_of_below ((Below.refl W3.heap.size W3).drew.trans b4) none
        have HJ := Lib.hid (join3_any w.heap.size L1 L2 L3 _ _ _ w5.heap.size W6 _ ((Q4.kept g45 (RowT.none _ _)).kept g56 (RowT.none _ _)) (((hP9.kept gX4 (RowT.none _ _)).kept g45 (RowT.none _ _)).kept g56 (RowT.none _ _)) (Q5.kept g56 (RowT.none _ _)) k6 B6.size hf1.1 hl2 hf3.1)
        clear hW6 k6 Q4 Q5 r4 r5
        refine hK _ _ ?_
        clear hK K
        try simp only [Act.put, List.setIfInBounds_toArray, List.set_cons_zero, List.set_cons_succ]
        refine wpAny_ready (rs := [20]) (by kernel_rfl) (by simp) ?_
        refine AllReady.cons (o := _) (nth_at rfl) (fun K hK => ?_) AllReady.nil
        go_simp
        with_reducible refine HJ.out.mono ?_
        rintro e w7 ⟨v7, rfl, r7, b7⟩
        have B7 := B6.trans (b7.mono B6.size)
        have R7 := Lib.hid r7
        obtain ⟨e71, e72, rfl, -⟩ := row_form r7.choose_spec.1
        clear r7
        have q7 := hq.below B7 hql
        have q70 : w7.cell? ⟨q, 0, none⟩ = some (.slice ao l.length cap) := (q7.cell 0).trans rfl
        have q7f := q7.frozen 0
        have Q7 := Lib.hid q7
        clear q7
        try dsimp only
        refine hK _ _ ?_
        clear hK K
        try simp only [Act.put, List.setIfInBounds_toArray, List.set_cons_zero, List.set_cons_succ]
        refine wpAny_take (i := 21) (oi := _) (v := ?_) (nth_at rfl) (by kernel_rfl) (by kernel_rfl) (by kernel_rfl) (fun _ _ _ h => h) (Or.inl ⟨by rfl, ?_⟩) ?_
        rotate_left 1
        · intro w; (go_simp <;> with_reducible rfl)
        try simp only [Act.put, List.setIfInBounds_toArray, List.set_cons_zero, List.set_cons_succ]
        refine wpAny_take (i := 22) (oi := _) (v := ?_) (nth_at rfl) (by kernel_rfl) (by kernel_rfl) (by kernel_rfl) (fun _ _ _ h => h) (Or.inl ⟨by rfl, ?_⟩) ?_
        rotate_left 1
        · intro w; (go_simp <;> with_reducible rfl)
        try simp only [Act.put, List.setIfInBounds_toArray, List.set_cons_zero, List.set_cons_succ]
        refine wpAny_take (i := 23) (oi := _) (v := ?_) (nth_at rfl) (by kernel_rfl) (by kernel_rfl) (by kernel_rfl) (fun _ _ _ h => h) (Or.inl ⟨by rfl, ?_⟩) ?_
        rotate_left 1
        · intro w; (go_simp <;> with_reducible rfl)
        try simp only [Act.put, List.setIfInBounds_toArray, List.set_cons_zero, List.set_cons_succ]
        refine wpAny_ready (rs := [24]) (by kernel_rfl) (by simp) ?_
        refine AllReady.cons (o := _) (nth_at rfl) (fun K hK => ?_) AllReady.nil
        go_simp
        refine hK _ _ ?_
        clear hK K
        try simp only [Act.put, List.setIfInBounds_toArray, List.set_cons_zero, List.set_cons_succ]
        refine wpAny_done (by kernel_rfl) ?_ _
        refine NoPanic.normal ?_
        go_wp2_with fail
        go_end0
        refine ⟨rfl, .slice e71 (L1 ++ (L2 ++ L3)).length e72, ?_, ?_, ?_⟩
        · have := Q7.out.set 0 (.slice e71 (L1 ++ (L2 ++ L3)).length e72); simpa using this
        · rw [← HT.out]; exact R7.out.kept (grownBy_setCellB w7 q 0 _) (RowT.blk Q7.out _ (by decide))
        · exact grownBy_t (grown_of_below B7 _) (grownBy_setCellB w7 q 0 _)
      refine AllReady.cons (o := _) (nth_at rfl) (fun K hK => ?_) AllReady.nil
      go_simp
      refine hK _ _ ?_
      clear hK K
      try simp only [Act.put, List.setIfInBounds_toArray, List.set_cons_zero, List.set_cons_succ]
      refine wpAny_take (i := 17) (oi := _) (v := y3) (nth_at rfl) (by kernel_rfl) (by kernel_rfl) (by kernel_rfl) (fun _ _ _ h => h) (Or.inl ⟨by rfl, ?_⟩) ?_
      · intro w; (go_simp <;> (rw [← HY3.out]; simp [sliced, add0_map]))
      try simp only [Act.put, List.setIfInBounds_toArray, List.set_cons_zero, List.set_cons_succ]
      refine wpAny_ready (rs := [5]) (by kernel_rfl) (by simp) ?_
      refine AllReady.cons (o := _) (nth_at rfl) (fun K hK => ?_) AllReady.nil
      go_simp
      refine hK _ _ ?_
      clear hK K
      try simp only [Act.put, List.setIfInBounds_toArray, List.set_cons_zero, List.set_cons_succ]
      refine wpAny_take (i := 8) (oi := _) (v := y1) (nth_at rfl) (by kernel_rfl) (by kernel_rfl) (by kernel_rfl) (fun _ _ _ h => h) (Or.inl ⟨by rfl, ?_⟩) ?_
      · intro w; (go_simp <;> (rw [← HY1.out]; simp [sliced, add0_map]))
      try simp only [Act.put, List.setIfInBounds_toArray, List.set_cons_zero, List.set_cons_succ]
      refine wpAny_ready (rs := [9]) (by kernel_rfl) (by simp) ?_
      refine AllReady.cons (o := _) (nth_at rfl) (fun K hK => ?_) AllReady.nil
      go_simp
      with_reducible refine (own_any L1 hf1 y1 _ (hP1.keep (KeepC.of_below hX.drew))).mono ?_
      rintro e w4 ⟨v4, rfl, r4, b4⟩
      have B4 := hX.drew.trans (b4.mono hX.drew.size)
      have Q4 := PartsO.base r4 hX.drew.size
      obtain ⟨e41, e42, rfl, -⟩ := row_form r4.choose_spec.1
      have q40 := (KeepC.of_below B4).2 _ _ _ hq0
      try dsimp only
      refine hK _ _ ?_
      clear hK K
      try simp only [Act.put, List.setIfInBounds_toArray, List.set_cons_zero, List.set_cons_succ]
      refine wpAny_ready (rs := [18]) (by kernel_rfl) (by simp) ?_
      refine AllReady.cons (o := _) (nth_at rfl) (fun K hK => ?_) AllReady.nil
      go_simp
      with_reducible refine (own_any L3 hf3 y3 _ (hP3.keep (KeepC.of_below B4))).mono ?_
      rintro e w5 ⟨v5, rfl, r5, b5⟩
      have B5 := B4.trans (b5.mono B4.size)
      have Q5 := PartsO.base r5 B4.size
      obtain ⟨e51, e52, rfl, -⟩ := row_form r5.choose_spec.1
      have q50 := (KeepC.of_below B5).2 _ _ _ hq0
      try dsimp only
      refine hK _ _ ?_
      clear hK K
      try simp only [Act.put, List.setIfInBounds_toArray, List.set_cons_zero, List.set_cons_succ]
      refine wpAny_ready (rs := [19]) (by kernel_rfl) (by simp) ?_
      refine AllReady.cons (o := _) (nth_at rfl) (fun K hK => ?_) AllReady.nil
      go_simp
      obtain ⟨W6, hW6⟩ : ∃ W6, w5.alloc (.cells #[.slice e41 L1.length e42, .slice (some ⟨w2.heap.size, 0, none⟩) 1 1, .slice e51 L3.length e52] 22) = W6 := ⟨_, rfl⟩
      rw [hW6]
      have b56 : Below w5.heap.size w5 W6 := by rw [← hW6]; exact (Below.refl _ w5).alloc (Nat.le_refl _) _
      have B6 : Below w.heap.size w W6 := B5.trans (b56.mono B5.size)
      have k6 : Blk W6 w5.heap.size #[.slice e41 L1.length e42, .slice (some ⟨w2.heap.size, 0, none⟩) 1 1, .slice e51 L3.length e52] 22 := by rw [← hW6]; exact Blk.new w5 _ _
      have g45 := grown_of_below b5 none
      have g56 := grown_of_below b56 none
      have gX4 := grown_of_below ((Below.refl W3.heap.size W3).drew.trans b4) none
      have HJ := Lib.hid (join3_any w.heap.size L1 L2 L3 _ _ _ w5.heap.size W6 _ ((Q4.kept g45 (RowT.none _ _)).kept g56 (RowT.none _ _)) (((hP9.kept gX4 (RowT.none _ _)).kept g45 (RowT.none _ _)).kept g56 (RowT.none _ _)) (Q5.kept g56 (RowT.none _ _)) k6 B6.size hf1.1 hl2 hf3.1)
      clear hW6 k6 Q4 Q5 r4 r5
      refine hK _ _ ?_
      clear hK K
      try simp only [Act.put, List.setIfInBounds_toArray, List.set_cons_zero, List.set_cons_succ]
      refine wpAny_ready (rs := [20]) (by kernel_rfl) (by simp) ?_
      refine AllReady.cons (o := _) (nth_at rfl) (fun K hK => ?_) AllReady.nil
      go_simp
      with_reducible refine HJ.out.mono ?_
      rintro e w7 ⟨v7, rfl, r7, b7⟩
      have B7 := B6.trans (b7.mono B6.size)
      have R7 := Lib.hid r7
      obtain ⟨e71, e72, rfl, -⟩ := row_form r7.choose_spec.1
      clear r7
      have q7 := hq.below B7 hql
      have q70 : w7.cell? ⟨q, 0, none⟩ = some (.slice ao l.length cap) := (q7.cell 0).trans rfl
      have q7f := q7.frozen 0
      have Q7 := Lib.hid q7
      clear q7
      try dsimp only
      refine hK _ _ ?_
      clear hK K
      try simp only [Act.put, List.setIfInBounds_toArray, List.set_cons_zero, List.set_cons_succ]
      refine wpAny_take (i := 21) (oi := _) (v := ?_) (nth_at rfl) (by kernel_rfl) (by kernel_rfl) (by kernel_rfl) (fun _ _ _ h => h) (Or.inl ⟨by rfl, ?_⟩) ?_
      rotate_left 1
      · intro w; (go_simp <;> with_reducible rfl)
      try simp only [Act.put, List.setIfInBounds_toArray, List.set_cons_zero, List.set_cons_succ]
      refine wpAny_take (i := 22) (oi := _) (v := ?_) (nth_at rfl) (by kernel_rfl) (by kernel_rfl) (by kernel_rfl) (fun _ _ _ h => h) (Or.inl ⟨by rfl, ?_⟩) ?_
      rotate_left 1
      · intro w; (go_simp <;> with_reducible rfl)
      try simp only [Act.put, List.setIfInBounds_toArray, List.set_cons_zero, List.set_cons_succ]
      refine wpAny_take (i := 23) (oi := _) (v := ?_) (nth_at rfl) (by kernel_rfl) (by kernel_rfl) (by kernel_rfl) (fun _ _ _ h => h) (Or.inl ⟨by rfl, ?_⟩) ?_
      rotate_left 1
      · intro w; (go_simp <;> with_reducible rfl)
      try simp only [Act.put, List.setIfInBounds_toArray, List.set_cons_zero, List.set_cons_succ]
      refine wpAny_ready (rs := [24]) (by kernel_rfl) (by simp) ?_
      refine AllReady.cons (o := _) (nth_at rfl) (fun K hK => ?_) AllReady.nil
      go_simp
      refine hK _ _ ?_
      clear hK K
      try simp only [Act.put, List.setIfInBounds_toArray, List.set_cons_zero, List.set_cons_succ]
      refine wpAny_done (by kernel_rfl) ?_ _
      refine NoPanic.normal ?_
      go_wp2_with fail
      go_end0
      refine ⟨rfl, .slice e71 (L1 ++ (L2 ++ L3)).length e72, ?_, ?_, ?_⟩
      · have := Q7.out.set 0 (.slice e71 (L1 ++ (L2 ++ L3)).length e72); simpa using this
      · rw [← HT.out]; exact R7.out.kept (grownBy_setCellB w7 q 0 _) (RowT.blk Q7.out _ (by decide))
      · exact grownBy_t (grown_of_below B7 _) (grownBy_setCellB w7 q 0 _)
end Go.Proofs.YtmjmmcdhpognaaaGreatDoor
/- Walks of layer 11: Set. -/
namespace Go.Proofs.YtmjmmcdhpognaaaGreatDoor
open Go.RowKit Go.Shelf
attribute [local go_sem] Oper.semAt_some
/-- what Set tells -/
def setV (base : Nat) (w : World) (l : List PartD) (e : Int) (r : Ending) (w' : World) : Prop :=
  ∃ v', r = .returned (.tuple #[v', .int .i64 e]) ∧ PartsO base 46 40 9 w' v' l ∧ Below base w w'
/-- at the label: the error is known -/
def SetJ (w : World) (LW : List PartD) (E : Int) (a : Act) (w' : World) : Prop := ∃ (u0 u1 u2 u3 u4 u5 u6 u7 u8 u10 u11 u12 u13 u14 u15 u16 u17 u18 u19 u20 u21 u22 u23 u24 u25 u26 u27 u28 u29 u30 u31 u32 u33 u34 u35 u36 u37 u38 u39 : Value), a = { tmps := #[u0, u1, u2, u3, u4, u5, u6, u7, u8, .iface 71 (.agg #[.int .i64 E]), u10, u11, u12, u13, u14, u15, u16, u17, u18, u19, u20, u21, u22, u23, u24, u25, u26, u27, u28, u29, u30, u31, u32, u33, u34, u35, u36, u37, u38, u39], defers := [] } ∧ LW = [] ∧ Below w.heap.size w w'
theorem jump_ret {l : Nat} {J : Act → World → Prop} {Q : Exit → Act → World → Prop} {a : Act} {w : World} : Exit.jump l J Q .ret a w = Q .ret a w := rfl
set_option maxRecDepth 100000 in
set_option maxHeartbeats 4000000 in
theorem Set_any (l : List PartD) (hl : FitsW l) (os : List ObjD) (ho : FitsS os) (v ov : Value) (a : LblD) (ea : Addr) (w : World) (hge : w.cell? ⟨1, 0, none⟩ = some (errV8 ea)) (het : ErrT w) (hv : PartsV w v l) (hov : ObjsV w ov os) :
    Calls Tryz.prog 17 #[v, lblV a, ov] w (setV w.heap.size w (setW l a os) (setE l a os)) := by
  obtain ⟨ao, cap, rfl, -⟩ := hv.at
  obtain ⟨ao2, cap2, rfl, -⟩ := hov.at
  obtain ⟨l2, S2, i2⟩ := a
  have hB0 := (Below.refl _ w).alloc (Nat.le_refl _) (.cells #[.int .i64 l2, .int .u64 S2, .int .i64 i2] 25)
  have hB1 := hB0.alloc (by simp) (.cells #[.slice ao l.length cap] 69)
  have hb0 := (Blk.new w #[.int .i64 l2, .int .u64 S2, .int .i64 i2] 25).alloc (.cells #[.slice ao l.length cap] 69)
  have hb1 := Blk.new (w.alloc (.cells #[.int .i64 l2, .int .u64 S2, .int .i64 i2] 25)) #[.slice ao l.length cap] 69
  rw [World.size_alloc] at hb1
  have HR := fun W (h : KeepC w W) => worldRight_any l hl (.slice ao l.length cap) ea W (h.2 _ _ _ hge) (hv.keep h)
  have HO := fun W (h : KeepC w W) => spaceRight_any os ho (.slice ao2 os.length cap2) ea W (h.2 _ _ _ hge) (hov.keep h)
  have HT := fun x W (h : KeepC w W) => told_any x W (h.2 _ _ _ het)
  have HL := fun W => lblRight_any ⟨l2, S2, i2⟩ W
  have HS := fun (hs : Srt l) W (h : KeepC w W) hq => set_any l hl hs os ho (w.heap.size + 1) (.slice ao l.length cap) (.slice ao2 os.length cap2) ⟨l2, S2, i2⟩ W hq (hv.keep h) (hov.keep h)
  have hsrt := Lib.hid (fun h => worldB_srt (w := l) h)
  have he : setE l ⟨l2, S2, i2⟩ os = if worldB l && spaceB os then if lblB ⟨l2, S2, i2⟩ then 0 else 20 else 110 := rfl
  have hs : setW l ⟨l2, S2, i2⟩ os = if setE l ⟨l2, S2, i2⟩ os = 0 then putW l ⟨l2, S2, i2⟩ os else [] := rfl
  generalize setW l ⟨l2, S2, i2⟩ os = LW at *
  generalize setE l ⟨l2, S2, i2⟩ os = E at *
  generalize worldB l = wb at *
  generalize spaceB os = sb at *
  generalize lblB ⟨l2, S2, i2⟩ = lb at *
  clear hv hov hge het hl ho
  have HE := Lib.hid he
  have HSW := Lib.hid hs
  clear he hs
  have hzz : ((w.alloc (.cells #[.int .i64 l2, .int .u64 S2, .int .i64 i2] 25)).alloc (.cells #[.slice ao l.length cap] 69)).heap.size = w.heap.size + 2 := by simp
  go_enter Tryz.func17, Tryz.ntmps17
  go_wp2_with fail
  refine wp_scope_jumps (l := 0) (J := SetJ w LW E) (μ := fun _ _ => 0) rfl ?first ?pass
  case pass =>
    rintro a W ⟨u0, u1, u2, u3, u4, u5, u6, u7, u8, u10, u11, u12, u13, u14, u15, u16, u17, u18, u19, u20, u21, u22, u23, u24, u25, u26, u27, u28, u29, u30, u31, u32, u33, u34, u35, u36, u37, u38, u39, rfl, rfl, hbW⟩
    have hT := HT E W (KeepC.of_below hbW)
    clear HR HO HT HL HS HE HSW
    go_wp2_with fail
    with_reducible refine hT.mono ?_
    rintro e w9 ⟨rfl, hb9⟩
    go_wp2_with fail
    rw [jump_ret]
    go_ret2
    exact ⟨_, rfl, PartsO.nil _ _ _ _ _, hbW.trans (hb9.mono hbW.size)⟩
  case first =>
    go_wp2_with fail
    have HRx := Lib.hid (HR _ (KeepC.of_below hB1))
    clear HR
    have HW2 : Hid (setV w.heap.size w LW E = setV w.heap.size w LW E) := rfl
    with_reducible refine HRx.out.mono ?_
    rintro e w2 ⟨rfl, hb2⟩
    have B2 := hB1.trans (hb2.mono hB1.size)
    have n0 := hb0.below hb2 (by rw [hzz]; omega)
    have n1 := hb1.below hb2 (by rw [hzz]; omega)
    clear hb0 hb1 HRx
    cases wb with
    | false =>
      have e1 : E = 110 := HE.out
      subst e1
      have e2 : LW = [] := HSW.out
      subst e2
      clear HE HSW HO HT HL HS n0 n1
      go_wp2_with fail
      exact wp_goto ⟨rfl, _, _, _, _, _, _, _, _, _, _, _, _, _, _, _, _, _, _, _, _, _, _, _, _, _, _, _, _, _, _, _, _, _, _, _, _, _, _, _, rfl, rfl, B2⟩
    | true =>
      have HOx := HO w2 (KeepC.of_below B2)
      clear HO
      go_wp2_with fail
      with_reducible refine HOx.mono ?_
      rintro e w3 ⟨rfl, hb3⟩
      have B3 := B2.trans (hb3.mono B2.size)
      have n03 := n0.below hb3 n0.lt
      have n13 := n1.below hb3 n1.lt
      clear HOx n0 n1
      cases sb with
      | false =>
        have e1 : E = 110 := HE.out
        subst e1
        have e2 : LW = [] := HSW.out
        subst e2
        clear HE HSW HT HL HS n03 n13
        go_wp2_with fail
        exact wp_goto ⟨rfl, _, _, _, _, _, _, _, _, _, _, _, _, _, _, _, _, _, _, _, _, _, _, _, _, _, _, _, _, _, _, _, _, _, _, _, _, _, _, _, rfl, rfl, B3⟩
      | true =>
        have d0 := n03.cell 0
        have d1 := n03.cell 1
        have d2 := n03.cell 2
        simp at d0 d1 d2
        go_wp2_with fail
        with_reducible refine (HL _).mono ?_
        rintro e w4 ⟨rfl, hb4⟩
        have B4 := B3.trans (hb4.mono B3.size)
        have n04 := n03.below hb4 n03.lt
        have n14 := n13.below hb4 n13.lt
        clear HL n03 n13 d0 d1 d2
        cases lb with
        | false =>
          have e1 : E = 20 := HE.out
          subst e1
          have e2 : LW = [] := HSW.out
          subst e2
          clear HE HSW HT HS n04 n14
          go_wp2_with fail
          exact wp_goto ⟨rfl, _, _, _, _, _, _, _, _, _, _, _, _, _, _, _, _, _, _, _, _, _, _, _, _, _, _, _, _, _, _, _, _, _, _, _, _, _, _, _, rfl, rfl, B4⟩
        | true =>
          have e1 : E = 0 := HE.out
          subst e1
          have e2 : LW = putW l ⟨l2, S2, i2⟩ os := HSW.out
          have E2 := Lib.hid e2
          clear HE HSW HT e2
          have HSx := HS (hsrt.out (by trivial)) w4 (KeepC.of_below B4) n14
          have d0 := n04.cell 0
          have d1 := n04.cell 1
          have d2 := n04.cell 2
          simp at d0 d1 d2
          clear HS n04 n14
          go_wp2_with fail
          with_reducible refine HSx.mono ?_
          rintro e w5 ⟨rfl, v5, n5, r5, g5⟩
          obtain ⟨a5, c5, rfl, -⟩ := row_form r5.choose_spec.1
          have R5 := Lib.hid (PartsO.base r5 B4.size)
          have B5 : Below w.heap.size w w5 := B4.grown g5 B4.size (fun k hk => by cases hk; omega)
          have y5 := n5.cell 0
          simp at y5
          clear HSx r5
          go_wp2_with fail
          go_wp2_with fail
          rw [jump_ret]
          go_ret2
          exact ⟨_, rfl, by rw [E2.out]; exact R5.out, B5⟩
end Go.Proofs.YtmjmmcdhpognaaaGreatDoor
